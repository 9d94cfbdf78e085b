import Derived.Test.YtpodeclkgcgpgaaShoot2
import Derived.Test.YtpodeclkgcgpgaaSame
/- The document's shootdowns (citadelref10.H): New, Post, Serve. -/
namespace Go.Proofs.Ytpodeclkgcgpgaa
set_option linter.unusedVariables false
set_option linter.unusedSimpArgs false
open Go.RowKit
set_option maxRecDepth 100000

/-- one step of Post's inner loop -/
def insS (v : Int) (s : List Int × Bool) (x : Int) : List Int × Bool := if s.2 = false ∧ v ≤ x then ((if v < x then s.1 ++ [v] else s.1) ++ [x], true) else (s.1 ++ [x], s.2)
def insF (v : Int) (L : List Int) : List Int × Bool := L.foldl (insS v) ([], false)
def insE (v : Int) (s : List Int × Bool) : List Int := if s.2 then s.1 else s.1 ++ [v]
theorem insF_snoc (v : Int) (L : List Int) (x : Int) : insF v (L ++ [x]) = insS v (insF v L) x := by simp [insF]
theorem testBit_orV (b v j : Nat) : (orV b v).testBit j = (b.testBit j || decide (j = v)) := by
  unfold orV
  rw [Nat.testBit_or, Nat.testBit_two_pow]
  congr 1
  exact decide_eq_decide.2 ⟨fun h => h.symm, fun h => h.symm⟩
theorem insF_due (b v : Nat) (hv : 1 ≤ v) : ∀ j, 1 ≤ j → ((insF (v : Int) (dueTo b j)).2 = true ∧ v < j ∧ (insF (v : Int) (dueTo b j)).1 = dueTo (orV b v) j) ∨
    ((insF (v : Int) (dueTo b j)).2 = false ∧ (insF (v : Int) (dueTo b j)).1 = dueTo b j ∧ dueTo (orV b v) j = if v < j then dueTo b j ++ [(v : Int)] else dueTo b j) := by
  intro j hj
  induction j with
  | zero => omega
  | succ j ih =>
    rcases Nat.eq_zero_or_pos j with h0 | hj1
    · subst h0
      refine Or.inr ⟨by rw [dueTo_one]; rfl, by rw [dueTo_one]; rfl, ?_⟩
      rw [dueTo_one, dueTo_one, if_neg (by omega)]
    have d1 := dueTo_succ b j hj1
    have d2 := dueTo_succ (orV b v) j hj1
    rw [testBit_orV] at d2
    rcases ih hj1 with ⟨i1, i2, i3⟩ | ⟨i1, i2, i3⟩
    · have hne : decide (j = v) = false := by simp; omega
      rw [hne, Bool.or_false] at d2
      refine Or.inl ?_
      cases hb : b.testBit j with
      | true =>
        rw [hb, if_pos rfl] at d1 d2
        rw [d1, insF_snoc, d2]
        have : insS (v : Int) (insF (v : Int) (dueTo b j)) (j : Int) = ((insF (v : Int) (dueTo b j)).1 ++ [(j : Int)], true) := by
          unfold insS; rw [i1, if_neg (by simp)]
        rw [this]
        exact ⟨rfl, by omega, by rw [i3]⟩
      | false =>
        rw [hb, if_neg (by decide), List.append_nil] at d1 d2
        rw [d1, d2]
        exact ⟨i1, by omega, i3⟩
    · cases hb : b.testBit j with
      | true =>
        rw [hb, if_pos rfl] at d1
        rw [hb, Bool.true_or, if_pos rfl] at d2
        rw [d1, insF_snoc]
        by_cases hvj : v ≤ j
        · refine Or.inl ?_
          by_cases hlt : v < j
          · have : insS (v : Int) (insF (v : Int) (dueTo b j)) (j : Int) = ((insF (v : Int) (dueTo b j)).1 ++ [(v : Int)] ++ [(j : Int)], true) := by
              unfold insS; rw [if_pos ⟨i1, by omega⟩, if_pos (by omega)]
            rw [this]
            rw [if_pos hlt] at i3
            exact ⟨rfl, by omega, by rw [d2, i3, i2]⟩
          · obtain rfl : v = j := by omega
            have : insS (v : Int) (insF (v : Int) (dueTo b v)) (v : Int) = ((insF (v : Int) (dueTo b v)).1 ++ [(v : Int)], true) := by
              unfold insS; rw [if_pos ⟨i1, by omega⟩, if_neg (by omega)]
            rw [this]
            rw [if_neg (by omega)] at i3
            exact ⟨rfl, by omega, by rw [d2, i3, i2]⟩
        · have : insS (v : Int) (insF (v : Int) (dueTo b j)) (j : Int) = ((insF (v : Int) (dueTo b j)).1 ++ [(j : Int)], false) := by
            unfold insS; rw [if_neg (by omega), i1]
          rw [this]
          rw [if_neg (by omega)] at i3
          exact Or.inr ⟨rfl, by rw [i2], by rw [if_neg (by omega), d2, i3]⟩
      | false =>
        rw [hb, if_neg (by decide), List.append_nil] at d1
        rw [hb, Bool.false_or] at d2
        rw [d1]
        by_cases hvj : j = v
        · subst hvj
          rw [if_neg (by omega)] at i3
          rw [decide_eq_true rfl, if_pos rfl] at d2
          exact Or.inr ⟨i1, i2, by rw [if_pos (by omega), d2, i3]⟩
        · rw [decide_eq_false hvj, if_neg (by decide), List.append_nil] at d2
          refine Or.inr ⟨i1, i2, ?_⟩
          rw [d2, i3]
          by_cases hlt : v < j
          · rw [if_pos hlt, if_pos (by omega)]
          · rw [if_neg hlt, if_neg (by omega)]
/-- Post's inner loop lays the VMID where it belongs -/
theorem ins_due (b v : Nat) (hv : 1 ≤ v ∧ v ≤ 15) : insE (v : Int) (insF (v : Int) (dueL b)) = dueL (orV b v) := by
  unfold dueL insE
  rcases insF_due b v hv.1 16 (by decide) with ⟨h1, _, h3⟩ | ⟨h1, h2, h3⟩
  · rw [h1, if_pos rfl]; exact h3
  · rw [h1, if_neg (by decide), h3, if_pos (by omega), h2]
theorem insF_len (v : Int) (L : List Int) : (insF v L).1.length ≤ 2 * L.length := by
  have key : ∀ (L : List Int) (s : List Int × Bool), (L.foldl (insS v) s).1.length ≤ s.1.length + 2 * L.length := by
    intro L
    induction L with
    | nil => intro s; simp
    | cons x L ih =>
      intro s
      have h := ih (insS v s x)
      have h2 : (insS v s x).1.length ≤ s.1.length + 2 := by
        unfold insS; split
        · split <;> simp
        · simp
      simp only [List.foldl_cons, List.length_cons]; omega
  have := key L ([], false)
  simpa [insF] using this
/-- the document's shootdowns, at block hp -/
def HAt (own : Nat → Nat) (c d : Nat) (w : World) (hp : Nat) (bs : List Nat) : Prop :=
  (∃ q vs, Blk w hp 122 #[.slice (some ⟨q, 0, none⟩) bs.length bs.length] ∧ own hp = c ∧ Blk w q 45 (List.toArray vs) ∧ own q = c ∧ vs.length = bs.length ∧
    ∀ (k : Nat) (v : Value) (b : Nat), vs[k]? = some v → bs[k]? = some b → Rw 3 1 own d w v (dueL b).length ((dueL b).map (.int .i64))) ∧ 1 ≤ bs.length ∧ bs.length ≤ 8
section
variable {own own' : Nat → Nat} {c d hp : Nat} {w w' : World} {bs : List Nat}
theorem HAt.step {C : Nat → Prop} (h : HAt own c d w hp bs) (hS : Step C own w own' w') (hc : ¬ C c) (hd : ¬ C d) : HAt own' c d w' hp bs := by
  obtain ⟨⟨q, vs, h1, o1, h2, o2, hl, hr⟩, hb⟩ := h
  obtain ⟨a1, a2⟩ := hS.blk h1 o1 hc
  obtain ⟨b1, b2⟩ := hS.blk h2 o2 hc
  exact ⟨⟨q, vs, a1, a2, b1, b2, hl, fun k v b hv hbk => (hr k v b hv hbk).step hS hd⟩, hb⟩
/-- numbers that say the same -/
theorem HAt.same {bs2 : List Nat} (h : HAt own c d w hp bs) (hl : bs.length = bs2.length) (he : ∀ (i x y : Nat), bs[i]? = some x → bs2[i]? = some y → dueL x = dueL y) : HAt own c d w hp bs2 := by
  obtain ⟨⟨q, vs, h1, o1, h2, o2, hlv, hr⟩, hb⟩ := h
  refine ⟨⟨q, vs, by rw [← hl]; exact h1, o1, h2, o2, hlv.trans hl, fun k v b hv hbk => ?_⟩, by rw [← hl]; exact hb⟩
  have hkl := (List.getElem?_eq_some_iff.1 hbk).1
  have hk1 : bs[k]? = some bs[k] := List.getElem?_eq_getElem (by omega)
  have := hr k v _ hv hk1
  rw [he k _ b hk1 hbk] at this
  exact this
theorem HAt.row (h : HAt own c d w hp bs) (k b : Nat) (hk : bs[k]? = some b) : ∃ q v, w.cell? ⟨hp, 0, none⟩ = some (.slice (some ⟨q, 0, none⟩) bs.length bs.length) ∧ w.cell? ⟨q, k, none⟩ = some v ∧ w.frozen? ⟨q, k, none⟩ = false ∧ hp < w.heap.size ∧ q < w.heap.size ∧ own q = c ∧ own hp = c ∧ Rw 3 1 own d w v (dueL b).length ((dueL b).map (.int .i64)) := by
  obtain ⟨⟨q, vs, h1, o1, h2, o2, hl, hr⟩, hb⟩ := h
  have hkl := (List.getElem?_eq_some_iff.1 hk).1
  have hv : vs[k]? = some vs[k] := List.getElem?_eq_getElem (by omega)
  exact ⟨q, vs[k], h1.cell 0, by rw [h2.cell]; simp [hv], h2.frozen k, h1.lt, h2.lt, o2, o1, hr k _ b hv hk⟩
/-- a hart's list is made anew, and laid -/
theorem HAt.lay {k b : Nat} {v2 : Value} (h : HAt own c d w hp bs) (hcd : c ≠ d) (hU : Upd (fun _ => False) w w') (hk : k < bs.length) (hR : Rw 3 1 (ext own w d) d w' v2 (dueL b).length ((dueL b).map (.int .i64))) (q : Nat) (hq : w.cell? ⟨hp, 0, none⟩ = some (.slice (some ⟨q, 0, none⟩) bs.length bs.length)) :
    Step (· = c) own w (ext own w d) (w'.setCell ⟨q, k, none⟩ v2) ∧ HAt (ext own w d) c d (w'.setCell ⟨q, k, none⟩ v2) hp (bs.set k b) ∧ (w'.setCell ⟨q, k, none⟩ v2).cell? ⟨hp, 0, none⟩ = some (.slice (some ⟨q, 0, none⟩) bs.length bs.length) := by
  obtain ⟨⟨q', vs, h1, o1, h2, o2, hl, hr⟩, hb⟩ := h
  have e := (h1.cell 0).symm.trans hq
  simp only [List.getElem?_toArray, List.getElem?_cons_zero] at e
  cases e
  have hS : Step (fun _ => False) own w (ext own w d) w' := ⟨hU, fun b hb => ext_old _ _ _ hb⟩
  obtain ⟨a1, a2⟩ := hS.blk h1 o1 (fun h => h)
  obtain ⟨b1, b2⟩ := hS.blk h2 o2 (fun h => h)
  have hne : hp ≠ q := a1.ne_ b1 (by decide)
  have hS2 : Step (· = c) (ext own w d) w' (ext own w d) (w'.setCell ⟨q, k, none⟩ v2) := ⟨(Upd.refl _ _).setCell (.inl b2) _, fun _ _ => rfl⟩
  have hset : (vs.toArray).setIfInBounds k v2 = (vs.set k v2).toArray := by simp
  refine ⟨(hS.mono (fun _ h => h.elim)).trans hS2, ⟨⟨q, vs.set k v2, by rw [List.length_set]; exact a1.far hne _, a2, by rw [← hset]; exact b1.set_ k _, b2, by rw [List.length_set, List.length_set]; exact hl, fun j v b' hv hbj => ?_⟩, by rw [List.length_set]; exact hb⟩, (a1.far (p := ⟨q, k, none⟩) hne _).cell 0⟩
  by_cases ej : j = k
  · subst ej
    rw [List.getElem?_set, if_pos rfl, if_pos (by omega)] at hv hbj
    cases hv; cases hbj
    exact hR.step hS2 (fun e => hcd e.symm)
  · rw [List.getElem?_set, if_neg (fun h => ej h.symm)] at hv hbj
    exact ((hr j v b' hv hbj).step hS (fun h => h)).step hS2 (fun e => hcd e.symm)
theorem info_intsH : (Try.prog.info? 45).map (fun i => (i.zero, i.size, i.bytes)) = some (some (.slice none 0 0), 1, 24) := by kernel_rfl
theorem ints_make (n : Nat) (hn : n ≤ 1024) (w : World) : (Instr.makeSlice 120 (.int .i64 (n : Int)) (.int .i64 (n : Int))).run Try.prog w = .ok (.slice (some ⟨w.heap.size, 0, none⟩) n n) (w.alloc (.cells (Array.replicate n (.slice none 0 0)) 45)) := by
  obtain ⟨ie, hi, hz, hs, hb⟩ := info_parts info_intsH
  exact run_make1 w _ _ ie _ Try.underlying120 hi hz hs rfl _ _ n (by rw [hb]; omega) (by omega)
theorem dueL_zero : dueL 0 = [] := by decide +kernel
theorem href_New (own : Nat → Nat) (c d : Nat) (w : World) (n : Nat) (hn : 1 ≤ n ∧ n ≤ 8) :
    Calls Try.prog 59 #[.int .i64 (n : Int)] w fun e w' => e = .returned (.tuple #[.pointer (some ⟨w.heap.size + 1, 0, none⟩), .int .i64 0]) ∧ Step (fun _ => False) own w (ext own w c) w' ∧ HAt (ext own w c) c d w' (w.heap.size + 1) (List.replicate n 0) := by
  have hd : decide ((n : Int) < 1) = false := by simp; omega
  have hb := Blk.new w 45 (Array.replicate n (.slice none 0 0))
  have hb2 := Blk.new (w.alloc (.cells (Array.replicate n (.slice none 0 0)) 45)) 122 #[.slice (some ⟨w.heap.size, 0, none⟩) n n]
  rw [World.size_alloc] at hb2
  have H := Lib.hid (show Step (fun _ => False) own w (ext own w c) ((w.alloc (.cells (Array.replicate n (.slice none 0 0)) 45)).alloc (.cells #[.slice (some ⟨w.heap.size, 0, none⟩) n n] 122)) ∧ HAt (ext own w c) c d ((w.alloc (.cells (Array.replicate n (.slice none 0 0)) 45)).alloc (.cells #[.slice (some ⟨w.heap.size, 0, none⟩) n n] 122)) (w.heap.size + 1) (List.replicate n 0) from
    ⟨⟨((Upd.refl _ _).alloc _).alloc _, fun b hb => ext_old _ _ _ hb⟩, ⟨w.heap.size, List.replicate n (.slice none 0 0), by rw [List.length_replicate]; exact hb2, ext_new _ _ _ (by omega), by rw [show (List.replicate n (Value.slice none 0 0)).toArray = Array.replicate n (.slice none 0 0) from by simp]; exact hb.alloc _, ext_new _ _ _ (Nat.le_refl _), by simp, fun k v b hv hbk => by
      rw [List.getElem?_replicate] at hv hbk
      split at hv
      · rename_i hlt
        rw [if_pos hlt] at hbk
        cases hv; cases hbk
        rw [dueL_zero]; exact Rw.nil _ _ _ _ _
      · cases hv⟩, by simp; omega, by simp; omega⟩)
  clear hb hb2
  go_enter Try.func59, Try.ntmps59
  go_wp2_with ((with_reducible show wpList _ _ _ ((⟨some 11, _, _, _, _, _⟩ : Oper) :: _) _ _); refine wpList_make rfl _ _ _ rfl _ _ rfl rfl (ints_make n (by omega) _) ?_)
  go_ret2
  exact ⟨rfl, H.out.1, H.out.2⟩
theorem href_New_bad (w : World) (n : Int) (h : n < 1 ∨ 8 < n) :
    Calls Try.prog 59 #[.int .i64 n] w fun e w' => e = .returned (.tuple #[.pointer none, .int .i64 1]) ∧ w = w' := by
  by_cases h1 : n < 1
  · have hd : decide (n < 1) = true := by simpa using h1
    clear h
    go_enter Try.func59, Try.ntmps59
    go_wp2
    go_ret2
    exact ⟨rfl, rfl⟩
  · have h2 : 8 < n := by omega
    have hd : decide (n < 1) = false := by simpa using h1
    clear h
    go_enter Try.func59, Try.ntmps59
    go_wp2
    go_ret2
    exact ⟨rfl, rfl⟩
theorem href_Post_bad (w : World) (v : Int) (h : v < 1 ∨ 15 < v) :
    Calls Try.prog 63 #[.pointer (some ⟨hp, 0, none⟩), .int .i64 v] w fun e w' => e = .returned (.tuple #[]) ∧ w = w' := by
  by_cases h1 : v < 1
  · have hd : decide (v < 1) = true := by simpa using h1
    clear h
    go_enter Try.func63, Try.ntmps63
    go_wp2
    exact bodyPost_ret (results_none rfl _ _ _) rfl ⟨rfl, rfl⟩
  · have h2 : 15 < v := by omega
    have hd : decide (v < 1) = false := by simpa using h1
    clear h
    go_enter Try.func63, Try.ntmps63
    go_wp2
    exact bodyPost_ret (results_none rfl _ _ _) rfl ⟨rfl, rfl⟩
end
end Go.Proofs.Ytpodeclkgcgpgaa
