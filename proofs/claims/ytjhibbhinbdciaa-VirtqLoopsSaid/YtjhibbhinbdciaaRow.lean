import Derived.Test.YtjhibbhinbdciaaApp
/- Rows: a slice's cells in a block of some colour, from any place of the block on; append, and what [1:] leaves. -/
namespace Go.Proofs.Ytjhibbhinbdciaa
set_option linter.unusedVariables false
open Go.RowKit
set_option maxRecDepth 100000

/-- a slice value of n elements (type e, so many cells each) that are xs, in a block of colour d; nil let in -/
def Rw (e : TypeId) (size : Nat) (own : Nat → Nat) (d : Nat) (w : World) (v : Value) (n : Nat) (xs : List Value) : Prop :=
  xs.length = n * size ∧ ((v = .slice none 0 0 ∧ n = 0) ∨ ∃ g o cap cur, v = .slice (some ⟨g, o, none⟩) n cap ∧ own g = d ∧ Blk w g e cur ∧ n ≤ cap ∧ cap ≤ maxLen ∧ o + cap * size ≤ cur.size ∧ (cur.toList.drop o).take (n * size) = xs)
section
variable {e : TypeId} {size d n : Nat} {own own' : Nat → Nat} {w w' : World} {v : Value} {xs : List Value}
theorem Rw.nil (e : TypeId) (size : Nat) (own : Nat → Nat) (d : Nat) (w : World) : Rw e size own d w (.slice none 0 0) 0 [] := ⟨by simp, .inl ⟨rfl, rfl⟩⟩
theorem Rw.step {C : Nat → Prop} (h : Rw e size own d w v n xs) (hS : Step C own w own' w') (hd : ¬ C d) : Rw e size own' d w' v n xs := by
  refine ⟨h.1, ?_⟩
  rcases h.2 with hn | ⟨g, o, cap, cur, hv, ho, hb, r⟩
  · exact .inl hn
  · obtain ⟨h1, h2⟩ := hS.blk hb ho hd
    exact .inr ⟨g, o, cap, cur, hv, h2, h1, r⟩
theorem Rw.recol {d' : Nat} (h : Rw e size own d w v n xs) (hg : ∀ b, own b = d → own' b = d') : Rw e size own' d' w v n xs := by
  refine ⟨h.1, ?_⟩
  rcases h.2 with hn | ⟨g, o, cap, cur, hv, ho, r⟩
  · exact .inl hn
  · exact .inr ⟨g, o, cap, cur, hv, hg _ ho, r⟩
theorem Rw.form (h : Rw e size own d w v n xs) : ∃ A cap, v = .slice A n cap ∧ n ≤ cap ∧ (0 < n → ∃ g o, A = some ⟨g, o, none⟩ ∧ own g = d ∧ g < w.heap.size ∧ w.frozen? ⟨g, o, none⟩ = false ∧ ∀ j u, xs[j]? = some u → w.cell? ⟨g, o + j, none⟩ = some u) := by
  rcases h.2 with ⟨rfl, rfl⟩ | ⟨g, o, cap, cur, rfl, ho, hb, hnc, hcm, hcs, ht⟩
  · exact ⟨none, 0, rfl, Nat.le_refl _, fun h => by omega⟩
  · refine ⟨_, cap, rfl, hnc, fun _ => ⟨g, o, rfl, ho, hb.lt, hb.frozen o, fun j u hu => ?_⟩⟩
    rw [hb.cell]
    have hj : j < n * size := by rw [← h.1]; exact (List.getElem?_eq_some_iff.1 hu).1
    rw [← ht, List.getElem?_take, if_pos hj, List.getElem?_drop] at hu
    simpa using hu
theorem Rw.reads (h : Rw e size own d w v n xs) {A : Option Addr} {cap : Nat} (hv : v = .slice A n cap) : Reads w w.heap.size size A n xs := by
  obtain ⟨A', cap', he, _, hf⟩ := h.form
  rw [hv] at he
  cases he
  refine ⟨h.1, fun hn => ?_⟩
  obtain ⟨g, o, rfl, _, hl, _, hc⟩ := hf hn
  exact ⟨_, rfl, hl, fun j u hu => by rw [show (⟨g, o, none⟩ : Addr).add j = ⟨g, o + j, none⟩ from by unfold Addr.add; split <;> simp_all]; exact hc j u hu⟩
/-- what a slice's [1:] holds -/
theorem Rw.tail {g o cap : Nat} (h : Rw e size own d w (.slice (some ⟨g, o, none⟩) (n + 1) cap) (n + 1) xs) : Rw e size own d w (.slice (some ⟨g, o + size, none⟩) n (cap - 1)) n (xs.drop size) := by
  have hx := h.1
  rcases h.2 with ⟨e, _⟩ | ⟨g', o', cap', cur, hv, ho, hb, hnc, hcm, hcs, ht⟩
  · cases e
  · cases hv
    refine ⟨by rw [List.length_drop, hx, Nat.add_mul]; omega, .inr ⟨g, o + size, cap - 1, cur, rfl, ho, hb, by omega, by omega, ?_, ?_⟩⟩
    · rw [Nat.sub_mul]; have : 1 * size ≤ cap * size := Nat.mul_le_mul_right _ (by omega); omega
    · rw [← ht, List.drop_take, List.drop_drop, show (n + 1) * size - size = n * size from by rw [Nat.add_mul]; omega]
theorem Rw.tail0 {g o cap : Nat} (h : Rw e size own d w (.slice (some ⟨g, o, none⟩) (0 + 1) cap) (0 + 1) xs) : Rw e size own d w (.slice (some ⟨g, o, none⟩) 0 (cap - 1)) 0 (xs.drop size) := by
  have hx := h.1
  rcases h.2 with ⟨e, _⟩ | ⟨g', o', cap', cur, hv, ho, hb, hnc, hcm, hcs, ht⟩
  · cases e
  · cases hv
    refine ⟨by rw [List.length_drop, hx, Nat.add_mul]; omega, .inr ⟨g, o, cap - 1, cur, rfl, ho, hb, by omega, by omega, ?_, ?_⟩⟩
    · have : (cap - 1) * size ≤ cap * size := Nat.mul_le_mul_right _ (by omega); omega
    · simp only [Nat.zero_mul, List.take_zero]
      exact (List.eq_nil_of_length_eq_zero (by rw [List.length_drop, hx, Nat.add_mul]; omega)).symm
theorem Rw.of_own {v : Value} (h : w.ownsRow 0 e size v n xs) (hg : ∀ g, v.ownBlock = some g → own g = d) : Rw e size own d w v n xs := by
  refine ⟨h.1, ?_⟩
  rcases h.2 with hn | ⟨g, cap, cur, rfl, _, hb, hnc, hcm, hcs, ht⟩
  · exact .inl hn
  · exact .inr ⟨g, 0, cap, cur, rfl, hg g rfl, hb, hnc, hcm, by omega, by simpa using ht⟩
end
section
variable {P : Program} {w : World}
theorem run_append_room_off (t ty e : TypeId) (i : TypeInfo) (ht : P.underlying t = some (.slice e)) (hi : P.info? e = some i)
    (g o sLen sCap : Nat) (cur : Array Value) (hg : w.heap[g]? = some (.cells cur e (0, 0)))
    (a : Addr) (m c : Nat) (news : List Value) (hl : news.length = m * i.size) (hnews : ∀ j u, news[j]? = some u → w.cell? (a.add j) = some u) (h1 : ∀ u ∈ news, u.oneCell' = true)
    (hroom : sLen + m ≤ sCap) (hfit : o + sLen * i.size + news.length ≤ cur.size) :
    (Builtin.append_ #[t, t] ty #[.slice (some ⟨g, o, none⟩) sLen sCap, .slice (some a) m c]).run P w =
      .ok (.slice (some ⟨g, o, none⟩) (sLen + m) sCap) (w.setRow g (cur.toList.take (o + sLen * i.size) ++ news ++ cur.toList.drop (o + sLen * i.size + news.length)).toArray) := by
  have hf := run_firstCells_some (P := P) w i.size m a m c news hl hnews
  have hst := run_storeCells_at P g (o + sLen * i.size) e news 0 cur w hg (by simpa using hfit) h1
  simp only [Nat.add_zero] at hst
  simp [Builtin.append_, run_underlying ht, sizeOf, typeInfo, hi, Builtin.lenOf, hroom, hf, Addr.add_lit, hst]
theorem run_append_none (t ty e : TypeId) (i : TypeInfo) (size : Nat) (ht : P.underlying t = some (.slice e)) (hi : P.info? e = some i) {own : Nat → Nat} {d : Nat}
    (v : Value) (n : Nat) (xs : List Value) (h : Rw e size own d w v n xs) (c : Nat) : (Builtin.append_ #[t, t] ty #[v, .slice none 0 c]).run P w = .ok v w := by
  rcases h.2 with ⟨rfl, rfl⟩ | ⟨g, o, cap, cur, rfl, _, _, hnc, _⟩
  · simp [Builtin.append_, run_underlying ht, sizeOf, typeInfo, hi, Builtin.lenOf, Builtin.firstCells]
  · simp [Builtin.append_, run_underlying ht, sizeOf, typeInfo, hi, Builtin.lenOf, Builtin.firstCells, hnc, storeCells]
theorem run_append_rw (t ty e : TypeId) (i : TypeInfo) (z : Value) (size bytes : Nat) (ht : P.underlying t = some (.slice e)) (hi : P.info? e = some i) (hz : i.zero = some z)
    (hsize : i.size = size) (hby : i.bytes = bytes) (hzs : z.cells.size = size) (hsz : 0 < size) {own : Nat → Nat} {d : Nat}
    (v : Value) (n : Nat) (xs : List Value) (hR : Rw e size own d w v n xs)
    (B : Nat) (A : Option Addr) (m c : Nat) (news : List Value) (hr : Reads w B size A m news) (h1 : ∀ u ∈ news, u.oneCell' = true)
    (h63 : n + m ≤ maxLen) (hbytes : (n + m) * bytes ≤ 140737488355328) :
    ∃ v' w', (Builtin.append_ #[t, t] ty #[v, .slice A m c]).run P w = .ok v' w' ∧ Step (· = d) own w (ext own w d) w' ∧ Rw e size (ext own w d) d w' v' (n + m) (xs ++ news) := by
  have hst0 : Step (· = d) own w (ext own w d) w := ⟨Upd.refl _ _, fun b hb => ext_old _ _ _ hb⟩
  have hkeep : Rw e size (ext own w d) d w v n xs := hR.step (C := fun _ => False) ⟨Upd.refl _ _, fun b hb => ext_old _ _ _ hb⟩ (fun h => h)
  rcases A with _ | ad
  · have hm : m = 0 := by
      rcases Nat.eq_zero_or_pos m with h0 | h0
      · exact h0
      · obtain ⟨ad, h, _⟩ := hr.2 h0
        cases h
    subst hm
    have hn : news = [] := List.eq_nil_of_length_eq_zero (by simpa using hr.1)
    subst hn
    exact ⟨v, w, run_append_none t ty e i size ht hi v n xs hR c, hst0, by simpa using hkeep⟩
  · have hcells : ∀ j u, news[j]? = some u → w.cell? (ad.add j) = some u := by
      intro j u hu
      rcases Nat.eq_zero_or_pos m with h0 | h0
      · subst h0
        have hn : news = [] := List.eq_nil_of_length_eq_zero (by simpa using hr.1)
        subst hn
        simp at hu
      · obtain ⟨ad', h, _, hc⟩ := hr.2 h0
        injection h with h
        subst h
        exact hc j u hu
    have hlen : (xs ++ news).length = (n + m) * size := by rw [List.length_append, hR.1, hr.1, Nat.add_mul]
    rcases hR.2 with ⟨rfl, rfl⟩ | ⟨g, o, cap, cur, rfl, ho, hb, hnc, hcm, hcs, htk⟩
    · have hx : xs = [] := List.eq_nil_of_length_eq_zero (by simpa using hR.1)
      subst hx
      obtain ⟨v', w', hrun, h2, h3, _, h5⟩ := run_append_own_at (P := P) w 0 t ty e i z size bytes ht hi hz hsize hby hzs hsz (.slice none 0 0) 0 [] (World.ownsRow_nil _ _ _ _) ad m c news hr.1 hcells h1 h63 hbytes (Nat.zero_le _)
      refine ⟨v', w', hrun, ⟨(Upd.refl _ _).grown h3 (fun k e => by cases e), fun b hb => ext_old _ _ _ hb⟩, Rw.of_own h2 (fun g e => ?_)⟩
      rcases h5 with h5 | h5
      · rw [h5] at e; cases e
      · rw [h5] at e; cases e; exact ext_new _ _ _ (Nat.le_refl _)
    · subst hsize
      subst hby
      by_cases hroom : n + m ≤ cap
      · have hmul : (n + m) * i.size ≤ cap * i.size := Nat.mul_le_mul_right _ hroom
        have hfit : o + n * i.size + news.length ≤ cur.size := by
          rw [hr.1]; rw [Nat.add_mul] at hmul; omega
        have hru := run_append_room_off (P := P) (w := w) t ty e i ht hi g o n cap cur hb ad m c news hr.1 hcells h1 hroom hfit
        refine ⟨_, _, hru, ⟨(Upd.refl (fun b => own b = d) w).setRow (g := g) (.inl ho) _, fun b hb => ext_old _ _ _ hb⟩, hlen, .inr ⟨g, o, cap, _, rfl, (ext_old _ _ _ hb.lt).trans ho, hb.setRow _, hroom, hcm, ?_, ?_⟩⟩
        · simp only [List.size_toArray, List.length_append, List.length_take, List.length_drop, Array.length_toList]
          omega
        · have hl0 : (cur.toList.take (o + n * i.size)).length = o + n * i.size := by rw [List.length_take, Array.length_toList]; omega
          have hd : (cur.toList.take (o + n * i.size)).drop o = xs := by rw [← htk, List.drop_take, Nat.add_sub_cancel_left]
          show ((cur.toList.take (o + n * i.size) ++ news ++ cur.toList.drop (o + n * i.size + news.length)).drop o).take ((n + m) * i.size) = xs ++ news
          rw [List.append_assoc, List.drop_append_of_le_length (by omega), hd, ← hlen, ← List.append_assoc, List.take_left]
      · have hsmall : n + m ≤ 9223372036854775807 := by simp only [maxLen] at h63; omega
        have holds : ∀ j u, xs[j]? = some u → w.cell? ((⟨g, o, none⟩ : Addr).add j) = some u := by
          intro j u hu
          rw [show (⟨g, o, none⟩ : Addr).add j = ⟨g, o + j, none⟩ from by unfold Addr.add; split <;> simp_all, hb.cell]
          have hj : j < n * i.size := by rw [← hR.1]; exact (List.getElem?_eq_some_iff.1 hu).1
          rw [← htk, List.getElem?_take, if_pos hj, List.getElem?_drop] at hu
          simpa using hu
        have hru := run_append_grow (P := P) w t ty e i z ht hi hz ⟨g, o, none⟩ n cap xs hR.1 holds ad m c news hr.1 hcells (by omega) (by omega) (growslice_fits (by omega) hbytes)
        have hge := grownCap_ge w (n + m) cap e
        have hcm2 : grownCap w (n + m) cap e ≤ maxLen := grownCap_le_maxLen w (n + m) cap e h63
        refine ⟨_, _, hru, ⟨((Upd.refl _ _).drew).alloc _, fun b hb => ext_old _ _ _ hb⟩, hlen, .inr ⟨w.heap.size, 0, _, _, rfl, ext_new _ _ _ (Nat.le_refl _), Blk.new w.drew _ _, hge, hcm2, ?_, ?_⟩⟩
        · simp only [Array.size_append, List.size_toArray, size_zeroCells, hzs, hR.1, hr.1, ← Nat.add_mul]
          have : (n + m) * i.size ≤ grownCap w (n + m) cap e * i.size := Nat.mul_le_mul_right _ hge
          rw [show n + m + (grownCap w (n + m) cap e - (n + m)) = grownCap w (n + m) cap e from by omega]
          omega
        · simp only [Array.toList_append, List.append_assoc, List.drop_zero]
          rw [← List.append_assoc, ← hlen]
          exact List.take_left
theorem wp_append_rw {o : Oper} {a : Act} {K : Act → World → Prop} {Q : Exit → Act → World → Prop} (s x : Operand) (t : TypeId)
    (ho : o.op = .call { callee := .builtin .append, args := #[s, x], argTypes := #[t, t] })
    (e : TypeId) (i : TypeInfo) (z : Value) (size bytes : Nat) (ht : P.underlying t = some (.slice e)) (hi : P.info? e = some i) (hz : i.zero = some z)
    (hsize : i.size = size) (hby : i.bytes = bytes) (hzs : z.cells.size = size) (hsz : 0 < size) {own : Nat → Nat} {d : Nat}
    (v : Value) (n : Nat) (xs : List Value) (hs : a.eval s = v) (hR : Rw e size own d w v n xs)
    (B : Nat) (A : Option Addr) (m c : Nat) (news : List Value) (hx : a.eval x = .slice A m c) (hr : Reads w B size A m news) (h1 : ∀ u ∈ news, u.oneCell' = true)
    (h63 : n + m ≤ maxLen) (hbytes : (n + m) * bytes ≤ 140737488355328)
    (h : ∀ v' w', Step (· = d) own w (ext own w d) w' → Rw e size (ext own w d) d w' v' (n + m) (xs ++ news) → K (a.put o.dst v') w') : o.wp P a w K Q := by
  obtain ⟨v', w', hrun, h2, h3⟩ := run_append_rw (P := P) t o.type e i z size bytes ht hi hz hsize hby hzs hsz v n xs hR B A m c news hr h1 h63 hbytes
  unfold Oper.wp execOp
  simp only [ho, resolve, invoke, builtin, Sem.run_bind, Sem.run_pure, Result.andThen_ok, List.map_toArray, List.map_cons, List.map_nil, hs, hx, hrun]
  exact h v' w' h2 h3
theorem wpList_append_rw {ops : Array Oper} {rest : List Oper} {o : Oper} {a : Act} {Q : Exit → Act → World → Prop} (hgd : o.guard = none) (s x : Operand) (t : TypeId)
    (ho : o.op = .call { callee := .builtin .append, args := #[s, x], argTypes := #[t, t] })
    (e : TypeId) (i : TypeInfo) (z : Value) (size bytes : Nat) (ht : P.underlying t = some (.slice e)) (hi : P.info? e = some i) (hz : i.zero = some z)
    (hsize : i.size = size) (hby : i.bytes = bytes) (hzs : z.cells.size = size) (hsz : 0 < size) {own : Nat → Nat} {d : Nat}
    (v : Value) (n : Nat) (xs : List Value) (hs : a.eval s = v) (hR : Rw e size own d w v n xs)
    (B : Nat) (A : Option Addr) (m c : Nat) (news : List Value) (hx : a.eval x = .slice A m c) (hr : Reads w B size A m news) (h1 : ∀ u ∈ news, u.oneCell' = true)
    (h63 : n + m ≤ maxLen) (hbytes : (n + m) * bytes ≤ 140737488355328)
    (h : ∀ v' w', Step (· = d) own w (ext own w d) w' → Rw e size (ext own w d) d w' v' (n + m) (xs ++ news) → wpList P ops Q rest (a.put o.dst v') w') : wpList P ops Q (o :: rest) a w :=
  wpList_plain hgd fun _ hK => wp_append_rw s x t ho e i z size bytes ht hi hz hsize hby hzs hsz v n xs hs hR B A m c news hx hr h1 h63 hbytes fun v' w' h2 h3 => hK _ _ (h v' w' h2 h3)
end
end Go.Proofs.Ytjhibbhinbdciaa
