import Derived.Test.YtlgcplekcmocbaaTref
import Derived.Test.YtlgcplekcmocbaaTlb4
import Derived.Test.YtlgcplekcmocbaaUma
import Derived.Test.YtlgcplekcmocbaaGst2
/- The document's TLB: Look, FlushPage, Evict. -/
namespace Go.Proofs.Ytlgcplekcmocbaa
set_option linter.unusedVariables false
set_option linter.unusedSimpArgs false
open Go.RowKit
set_option maxRecDepth 100000

section
variable {own own' : Nat → Nat} {c d p room : Nat} {w w' : World} {l : List Tr}
set_option maxHeartbeats 4000000 in
theorem tref_Look (h : TrefAt own c d w p room l) (v pg : Int) :
    Calls Try.prog 73 #[.pointer (some ⟨p, 0, none⟩), .int .i64 v, .int .u64 pg] w fun e w' =>
      e = .returned (.tuple #[.agg #[.int .i64 ((lookT l v pg).getD tr0).v, .int .u64 ((lookT l v pg).getD tr0).p, .int .u64 ((lookT l v pg).getD tr0).f, .int .i64 ((lookT l v pg).getD tr0).r], .bool (lookT l v pg).isSome]) ∧ Upd (fun _ => False) w w' := by
  obtain ⟨⟨v1, hb, ho, hR⟩, h1, h2, h3⟩ := h
  have c1 : (w.alloc (.cells #[.int .i64 0, .int .u64 0, .int .u64 0, .int .i64 0] 115)).cell? ⟨p, 1, none⟩ = some v1 := (hb.alloc _).cell 1
  have hlt : p < (w.alloc (.cells #[.int .i64 0, .int .u64 0, .int .u64 0, .int .i64 0] 115)).heap.size := (hb.alloc _).lt
  have hst := step_allocS own w (.cells #[.int .i64 0, .int .u64 0, .int .u64 0, .int .i64 0] 115)
  obtain ⟨A, cap, rfl, hcap, hform⟩ := (hR.step hst (fun h => h)).form
  have HR := Lib.hid hform
  have hB := Blk.new w 115 #[.int .i64 0, .int .u64 0, .int .u64 0, .int .i64 0]
  have hU := (Upd.refl (fun _ => False) w).alloc (.cells #[.int .i64 0, .int .u64 0, .int .u64 0, .int .i64 0] 115)
  have hlen : l.length ≤ 64 := by omega
  have H0 := Lib.hid (And.intro hB hU)
  clear hb ho hR h1 h2 h3 hform hB hU hst
  go_enter Try.func73, Try.ntmps73
  go_wp2
  generalize hrb : w.heap.size = rb at *
  generalize (w.alloc (.cells #[.int .i64 0, .int .u64 0, .int .u64 0, .int .i64 0] 115)) = wq at *
  go_loopw [8] (fun i wr => ∃ (k : Nat), k ≤ l.length ∧ i = .int .i64 (k : Int) ∧ lookT (l.take k) v pg = none ∧ wr = wq) (fun i _ => l.length - (intOf i).toNat)
  case atStart => exact ⟨0, by omega, rfl, rfl, rfl⟩
  case round =>
    obtain ⟨k, hk, rfl, hn, rfl⟩ := hrel
    have z0 := H0.out.1.frozen 0
    have z1 := H0.out.1.frozen 1
    have z2 := H0.out.1.frozen 2
    have z3 := H0.out.1.frozen 3
    have x0 := H0.out.1.cell 0
    have x1 := H0.out.1.cell 1
    have x2 := H0.out.1.cell 2
    have x3 := H0.out.1.cell 3
    simp only [List.getElem?_toArray, List.getElem?_cons_zero, List.getElem?_cons_succ] at x0 x1 x2 x3
    have hlr := H0.out.1.lt
    by_cases hlt : k < l.length
    · obtain ⟨g, o, rfl, hg, hgl, _, hc⟩ := HR.out (by omega)
      have hget : l[k]? = some l[k] := List.getElem?_eq_getElem hlt
      obtain ⟨q0, q1, q2, q3⟩ := trsC_at l k _ hget
      have c0 := hc _ _ q0
      have c1 := hc _ _ q1
      have c2 := hc _ _ q2
      have c3 := hc _ _ q3
      simp only [← Nat.add_assoc] at c1 c2 c3
      obtain ⟨⟨xv, xp, xf, xr⟩, hx⟩ : ∃ x, l[k] = x := ⟨_, rfl⟩
      rw [hx] at hget c0 c1 c2 c3
      have hlt' : (k : Int) < (l.length : Int) := by omega
      have HN := Lib.hid (And.intro hn hget)
      clear hn hget q0 q1 q2 q3 hc hx
      by_cases hm : xv = v
      · subst hm
        by_cases hp : xp = pg
        · subst hp
          have HF := Lib.hid (look_found HN.out.1 HN.out.2 (by simp))
          go_wp2
          refine bodyPost_ret (results_cell_tmp_row rfl _ _ rb 115 #[.int .i64 xv, .int .u64 xp, .int .u64 xf, .int .i64 xr] _ rfl ((((H0.out.1.set_ 0 (.int .i64 xv)).set_ 1 (.int .u64 xp)).set_ 2 (.int .u64 xf)).set_ 3 (.int .i64 xr)) Try.underlying115 rfl (by kernel_rfl)) rfl ?_
          rw [HF.out]
          exact ⟨rfl, H0.out.2.setCell (p := ⟨rb, 0, none⟩) (.inr (Nat.le_of_eq hrb)) _ |>.setCell (p := ⟨rb, 1, none⟩) (.inr (Nat.le_of_eq hrb)) _ |>.setCell (p := ⟨rb, 2, none⟩) (.inr (Nat.le_of_eq hrb)) _ |>.setCell (p := ⟨rb, 3, none⟩) (.inr (Nat.le_of_eq hrb)) _⟩
        · have hpd : (xp == pg) = false := by simpa using hp
          have HX := Lib.hid (look_next HN.out.1 HN.out.2 (by simp [hpd]))
          go_wp2
          exact ⟨⟨k + 1, by omega, by go_num, HX.out, by first | trivial | rfl⟩, by simp [intOf]; omega⟩
      · have hmd : (xv == v) = false := by simpa using hm
        have HX := Lib.hid (look_next HN.out.1 HN.out.2 (by simp [hmd]))
        go_wp2
        exact ⟨⟨k + 1, by omega, by go_num, HX.out, by first | trivial | rfl⟩, by simp [intOf]; omega⟩
    · obtain rfl : k = l.length := by omega
      rw [List.take_length] at hn
      have HN := Lib.hid hn
      clear hn
      go_wp2
      refine bodyPost_ret (results_cell_tmp_row rfl _ _ rb 115 #[.int .i64 0, .int .u64 0, .int .u64 0, .int .i64 0] _ rfl (((H0.out.1.set_ 0 (.int .i64 0)).set_ 1 (.int .u64 0)).set_ 2 (.int .u64 0) |>.set_ 3 (.int .i64 0)) Try.underlying115 rfl (by kernel_rfl)) rfl ?_
      rw [HN.out]
      exact ⟨rfl, H0.out.2.setCell (p := ⟨rb, 0, none⟩) (.inr (Nat.le_of_eq hrb)) _ |>.setCell (p := ⟨rb, 1, none⟩) (.inr (Nat.le_of_eq hrb)) _ |>.setCell (p := ⟨rb, 2, none⟩) (.inr (Nat.le_of_eq hrb)) _ |>.setCell (p := ⟨rb, 3, none⟩) (.inr (Nat.le_of_eq hrb)) _⟩
theorem tref_FlushPage (h : TrefAt own c d w p room l) (hcd : c ≠ d) (v pg : Int) :
    Calls Try.prog 52 #[.pointer (some ⟨p, 0, none⟩), .int .i64 v, .int .u64 pg] w fun e w' => e = .returned (.tuple #[]) ∧ ∃ own', Step (· = c) own w own' w' ∧ TrefAt own' c d w' p room (flushP l v pg) := by
  have hD := tref_drop h hcd v true pg
  rw [dropT_one] at hD
  have HD := Lib.hid hD
  clear hD h
  go_enter Try.func52, Try.ntmps52
  go_wp2_with fail
  ((with_reducible refine HD.out.mono ?_); rintro e w1 ⟨rfl, h1⟩)
  have H1 := Lib.hid h1
  clear h1 HD
  go_wp2
  go_end0
  exact ⟨rfl, H1.out⟩
end
/-- one entry a page -/
def UniqT (l : List Tr) : Prop := l.Pairwise (fun x y => ¬ (x.v = y.v ∧ x.p = y.p))
theorem flushP_erase : ∀ {l : List Tr} {k : Nat} {t : Tr}, UniqT l → l[k]? = some t → flushP l t.v t.p = l.take k ++ l.drop (k + 1) := by
  intro l
  induction l with
  | nil => intro k t _ h; cases h
  | cons x l ih =>
    intro k t hu h
    obtain ⟨h1, h2⟩ := List.pairwise_cons.1 hu
    cases k with
    | zero =>
      simp at h
      subst h
      show (x :: l).filter _ = l
      rw [List.filter_cons, if_neg (by simp)]
      rw [List.filter_eq_self]
      intro y hy
      have := h1 y hy
      simp only [bne, Bool.or_eq_true, Bool.not_eq_true', beq_eq_false_iff_ne, ne_eq]
      by_cases e : y.v = x.v
      · right; intro e2; exact this ⟨e.symm, e2.symm⟩
      · exact .inl e
    | succ k =>
      have hk : l[k]? = some t := by simpa using h
      have hm : t ∈ l := List.mem_of_getElem? hk
      have hne := h1 t hm
      show (x :: l).filter _ = _
      rw [List.filter_cons, if_pos (by
        simp only [bne, Bool.or_eq_true, Bool.not_eq_true', beq_eq_false_iff_ne, ne_eq]
        by_cases e : x.v = t.v
        · right; intro e2; exact hne ⟨e, e2⟩
        · exact .inl e)]
      have := ih h2 hk
      unfold flushP at this
      rw [this]; rfl
theorem UniqT.flushP {l : List Tr} (h : UniqT l) (v p : Int) : UniqT (flushP l v p) := h.sublist (List.filter_sublist)
theorem UniqT.flushT {l : List Tr} (h : UniqT l) (v : Int) : UniqT (flushT l v) := h.sublist (List.filter_sublist)
theorem UniqT.put {l : List Tr} (h : UniqT l) (room : Nat) (t : Tr) : UniqT (putT room l t) := by
  have hf := h.flushP t.v t.p
  have hn : ∀ x ∈ Go.Proofs.Ytlgcplekcmocbaa.flushP l t.v t.p, ¬ (x.v = t.v ∧ x.p = t.p) := by
    intro x hx
    have := (List.mem_filter.1 hx).2
    simp only [bne, Bool.or_eq_true, Bool.not_eq_true', beq_eq_false_iff_ne, ne_eq] at this
    rintro ⟨e1, e2⟩
    rcases this with h | h
    · exact h e1
    · exact h e2
  unfold putT
  unfold UniqT
  rw [List.pairwise_append]
  refine ⟨?_, List.pairwise_singleton _ _, ?_⟩
  · split
    · exact hf.sublist (List.drop_sublist _ _)
    · exact hf
  · intro x hx y hy
    rw [List.mem_singleton.1 hy]
    refine hn x ?_
    split at hx
    · exact List.mem_of_mem_drop hx
    · exact hx
theorem UniqT.evict {l : List Tr} (h : UniqT l) (i : Int) : UniqT (evictT l i) := by
  unfold evictT
  split
  · split
    · exact h.flushP _ _
    · exact h
  · exact h
end Go.Proofs.Ytlgcplekcmocbaa

/- The document's TLB: Evict. -/
namespace Go.Proofs.Ytlgcplekcmocbaa
set_option linter.unusedVariables false
set_option linter.unusedSimpArgs false
open Go.RowKit
set_option maxRecDepth 100000

theorem trsC_take (l : List Tr) (k : Nat) : trsC (l.take k) = (trsC l).take (k * 4) := by
  induction l generalizing k with
  | nil => simp [trsC]
  | cons x l ih =>
    cases k with
    | zero => simp [trsC]
    | succ k =>
      show trC x ++ trsC (l.take k) = (trC x ++ trsC l).take ((k + 1) * 4)
      have hl : (trC x).length = 4 := rfl
      rw [ih, List.take_append, hl, List.take_of_length_le (l := trC x) (by rw [hl]; omega), show (k + 1) * 4 - 4 = k * 4 from by omega]
theorem trsC_dropN (l : List Tr) (k : Nat) : trsC (l.drop k) = (trsC l).drop (k * 4) := by
  induction l generalizing k with
  | nil => simp [trsC]
  | cons x l ih =>
    cases k with
    | zero => simp
    | succ k =>
      show trsC (l.drop k) = (trC x ++ trsC l).drop ((k + 1) * 4)
      have hl : (trC x).length = 4 := rfl
      rw [ih, List.drop_append, hl, List.drop_of_length_le (l := trC x) (by rw [hl]; omega), show (k + 1) * 4 - 4 = k * 4 from by omega, List.nil_append]
theorem trsC_app (a b : List Tr) : trsC (a ++ b) = trsC a ++ trsC b := by simp [trsC]
section
variable {own own' : Nat → Nat} {c d p room : Nat} {w w' : World} {l : List Tr}
set_option maxHeartbeats 2000000 in
theorem tref_Evict (h : TrefAt own c d w p room l) (hcd : c ≠ d) (hu : UniqT l) (i : Int) :
    Calls Try.prog 54 #[.pointer (some ⟨p, 0, none⟩), .int .i64 i] w fun e w' => e = .returned (.bool (evictB l i)) ∧ ∃ own', Step (· = c) own w own' w' ∧ TrefAt own' c d w' p room (evictT l i) := by
  have HT := Lib.hid h
  obtain ⟨⟨v1, hb, ho, hR⟩, h1, h2, h3⟩ := h
  have c1 : w.cell? ⟨p, 1, none⟩ = some v1 := hb.cell 1
  have hlt := hb.lt
  obtain ⟨A, cap, rfl, hcap, hform⟩ := hR.form
  by_cases hi : 0 ≤ i
  · obtain ⟨k, rfl⟩ := Int.eq_ofNat_of_zero_le hi
    by_cases hk : k < l.length
    · rw [show evictB l (k : Int) = true from by unfold evictB; simp; omega]
      have hget : l[k]? = some l[k] := List.getElem?_eq_getElem hk
      rw [show evictT l (k : Int) = l.take k ++ l.drop (k + 1) from by unfold evictT; rw [if_pos (by omega), Int.toNat_natCast, hget]; exact flushP_erase hu hget]
      have hR1 : Rw 115 4 (up1 own w) (d + 1) w (.slice A l.length cap) l.length (trsC l) := by
        refine ⟨hR.1, ?_⟩
        rcases hR.2 with hn | ⟨g, o, cap, cur, hv, ho, hb, r⟩
        · exact .inl hn
        · exact .inr ⟨g, o, cap, cur, hv, by rw [up1_old hb.lt, ho], hb, r⟩
      obtain ⟨g, o, rfl, hg, hgl, hgz, hc⟩ := hform (by omega)
      obtain ⟨_, hn | ⟨g', o', cap', cur, hv', ho', hbk, hnc, hcm, hcs, htk⟩⟩ := hR1
      · cases hn.1
      cases hv'
      have hcut : ∀ (wx : World), (∀ j u, (trsC l)[j]? = some u → wx.cell? ⟨g, o + j, none⟩ = some u) → g < wx.heap.size → ∀ a n, a + n ≤ l.length → Reads wx wx.heap.size 4 (some ⟨g, o + a * 4, none⟩) n (trsC ((l.drop a).take n)) := by
        intro wx hwx hgx a n han
        refine ⟨by rw [trsC_len, List.length_take, List.length_drop]; omega, fun _ => ⟨_, rfl, hgx, fun j u hj => ?_⟩⟩
        rw [show (⟨g, o + a * 4, none⟩ : Addr).add j = ⟨g, o + (a * 4 + j), none⟩ from by unfold Addr.add; split <;> simp_all <;> omega]
        refine hwx _ u ?_
        have hjl : j < n * 4 := by have := (List.getElem?_eq_some_iff.1 hj).1; rw [trsC_len, List.length_take, List.length_drop] at this; omega
        rw [trsC_take, trsC_dropN, List.getElem?_take, if_pos hjl, List.getElem?_drop] at hj
        exact hj
      have hrd1 : Reads w w.heap.size 4 (some ⟨g, o, none⟩) k (trsC (l.take k)) := by have := hcut w hc hgl 0 k (by omega); simpa using this
      obtain ⟨i, z, hi', hz, hs, hby, hzs⟩ := trans_parts
      have HI := Lib.hid (And.intro hi' (And.intro hz (And.intro hs (And.intro hby hzs))))
      have HR := Lib.hid (And.intro hrd1 (And.intro (And.intro hc hgl) hcut))
      have HB := Lib.hid (And.intro hb (And.intro ho hbk))
      have HO := Lib.hid ho'
      have hk' : (k : Int) < (l.length : Int) := by omega
      have hkc : (k : Int) ≤ (cap : Int) := by omega
      have hk64 : l.length ≤ 64 := by omega
      have z1 := hb.frozen 1
      clear hb ho hR h1 h2 h3 hform hget hbk ho' hcs htk hrd1 hcut hc hi' hz hs hby hzs hcm
      go_enter Try.func54, Try.ntmps54
      go_wp2_with ((with_reducible show wpList _ _ _ ((⟨some 24, _, _, _, _, _⟩ : Oper) :: _) _ _); refine wpList_append_rw rfl (.tmp 17) (.tmp 23) _ rfl 115 i _ 4 32 Try.underlying64 HI.out.1 HI.out.2.1 HI.out.2.2.1 HI.out.2.2.2.1 HI.out.2.2.2.2 (by omega) (own := up1 own w) (d := 0) (.slice none 0 0) 0 [] rfl (Rw.nil _ _ _ _ _) w.heap.size (some ⟨g, o, none⟩) k cap (trsC (l.take k)) rfl HR.out.1 trsC_cell (by unfold maxLen; omega) (by omega) ?_)
      intro v2 w5 hst5 hrow5
      have c5 := (hst5.upd.cell (p := ⟨p, 1, none⟩) hlt (by show ¬ up1 own w p = 0; rw [up1_old hlt]; omega)).trans c1
      have z5 := (hst5.upd.frozen' (p := ⟨p, 1, none⟩) hlt (by show ¬ up1 own w p = 0; rw [up1_old hlt]; omega)).trans z1
      have hlt5 : p < w5.heap.size := Nat.lt_of_lt_of_le hlt hst5.upd.size
      have hgl5 : g < w5.heap.size := Nat.lt_of_lt_of_le hgl hst5.upd.size
      have hc5 : ∀ j u, (trsC l)[j]? = some u → w5.cell? ⟨g, o + j, none⟩ = some u := fun j u hu => (hst5.upd.cell (p := ⟨g, o + j, none⟩) hgl (by show ¬ up1 own w g = 0; rw [HO.out]; omega)).trans (HR.out.2.1.1 j u hu)
      have hrd2 := HR.out.2.2 w5 hc5 hgl5 (k + 1) (l.length - (k + 1)) (by omega)
      rw [List.take_of_length_le (by rw [List.length_drop]; omega)] at hrd2
      have H5 := Lib.hid (And.intro hst5 (And.intro hrow5 hrd2))
      obtain ⟨A5, cap5, rfl, _⟩ := hrow5.form
      clear hst5 hrow5 hrd2 hc5 c1 z1
      by_cases hce : cap = k + 1
      · subst hce
        have hl1 : l.length = k + 1 := by omega
        go_wp2_with ((with_reducible show wpList _ _ _ ((⟨some 34, _, _, _, _, _⟩ : Oper) :: _) _ _); refine wpList_append_rw rfl (.tmp 26) (.tmp 33) _ rfl 115 i _ 4 32 Try.underlying64 HI.out.1 HI.out.2.1 HI.out.2.2.1 HI.out.2.2.2.1 HI.out.2.2.2.2 (by omega) (own := ext (up1 own w) w 0) (d := 0) _ _ _ rfl H5.out.2.1 w5.heap.size (some ⟨g, o, none⟩) 0 0 (trsC (l.drop (k + 1))) rfl (show Reads w5 w5.heap.size 4 (some ⟨g, o, none⟩) 0 (trsC (l.drop (k + 1))) from ⟨by rw [List.drop_eq_nil_of_le (by omega)]; rfl, fun h => absurd h (by decide)⟩) trsC_cell (by unfold maxLen; omega) (by omega) ?_)
        intro v3 w6 hst6 hrow6
        have hU6 := H5.out.1.trans hst6
        have hup := up1_upd hU6
        have hrw := up1_row hU6 hrow6 d
        rw [← trsC_app] at hrw
        rw [show Rw 115 4 (ext own w d) d w6 v3 k (trsC (l.take k ++ l.drop (k + 1))) = Rw 115 4 (ext own w d) d w6 v3 (l.take k ++ l.drop (k + 1)).length (trsC (l.take k ++ l.drop (k + 1))) from by congr 1; rw [List.length_append, List.length_take, List.length_drop]; omega] at hrw
        --(l.take k ++ l.drop (k + 1)).length from by rw [List.length_append, List.length_take, List.length_drop]; omega] at hrw
        have c6 := (hst6.upd.cell (p := ⟨p, 1, none⟩) hlt5 (by show ¬ ext (up1 own w) w 0 p = 0; rw [ext_old _ _ _ hlt, up1_old hlt]; omega)).trans c5
        have z6 := (hst6.upd.frozen' (p := ⟨p, 1, none⟩) hlt5 (by show ¬ ext (up1 own w) w 0 p = 0; rw [ext_old _ _ _ hlt, up1_old hlt]; omega)).trans z5
        have hlt6 : p < w6.heap.size := Nat.lt_of_lt_of_le hlt5 hst6.upd.size
        have H6 := Lib.hid (HT.out.lay hcd hup hrw (by rw [List.length_append, List.length_take, List.length_drop]; omega))
        obtain ⟨A6, cap6, rfl, _⟩ := hrow6.form
        clear hst6 hrow6 hU6 hup hrw c5 z5
        go_wp2
        go_ret
        exact ⟨rfl, _, H6.out⟩
      · have hce2 : ((cap : Int) - ((k : Int) + 1) == 0) = false := by simp; omega
        have hce3 : 1 ≤ cap - (k + 1) := by omega
        go_wp2_with ((with_reducible show wpList _ _ _ ((⟨some 34, _, _, _, _, _⟩ : Oper) :: _) _ _); refine wpList_append_rw rfl (.tmp 26) (.tmp 33) _ rfl 115 i _ 4 32 Try.underlying64 HI.out.1 HI.out.2.1 HI.out.2.2.1 HI.out.2.2.2.1 HI.out.2.2.2.2 (by omega) (own := ext (up1 own w) w 0) (d := 0) _ _ _ rfl H5.out.2.1 w5.heap.size (some ⟨g, o + (k + 1) * 4, none⟩) (l.length - (k + 1)) (cap - (k + 1)) (trsC (l.drop (k + 1))) rfl H5.out.2.2 trsC_cell (by unfold maxLen; omega) (by omega) ?_)
        intro v3 w6 hst6 hrow6
        have hU6 := H5.out.1.trans hst6
        have hup := up1_upd hU6
        have hrw := up1_row hU6 hrow6 d
        rw [← trsC_app, show k + (l.length - (k + 1)) = (l.take k ++ l.drop (k + 1)).length from by rw [List.length_append, List.length_take, List.length_drop]; omega] at hrw
        have c6 := (hst6.upd.cell (p := ⟨p, 1, none⟩) hlt5 (by show ¬ ext (up1 own w) w 0 p = 0; rw [ext_old _ _ _ hlt, up1_old hlt]; omega)).trans c5
        have z6 := (hst6.upd.frozen' (p := ⟨p, 1, none⟩) hlt5 (by show ¬ ext (up1 own w) w 0 p = 0; rw [ext_old _ _ _ hlt, up1_old hlt]; omega)).trans z5
        have hlt6 : p < w6.heap.size := Nat.lt_of_lt_of_le hlt5 hst6.upd.size
        have H6 := Lib.hid (HT.out.lay hcd hup hrw (by rw [List.length_append, List.length_take, List.length_drop]; omega))
        obtain ⟨A6, cap6, rfl, _⟩ := hrow6.form
        clear hst6 hrow6 hU6 hup hrw c5 z5
        go_wp2
        go_ret
        exact ⟨rfl, _, H6.out⟩
    · rw [show evictB l (k : Int) = false from by unfold evictB; simp; omega]
      rw [show evictT l (k : Int) = l from by unfold evictT; rw [if_pos (by omega), Int.toNat_natCast, List.getElem?_eq_none (by omega)]]
      have hk' : (l.length : Int) ≤ (k : Int) := by omega
      clear hb ho hR h1 h2 h3 hform
      go_enter Try.func54, Try.ntmps54
      go_wp2
      go_ret
      exact ⟨rfl, own, Step.refl _ _ _, HT.out⟩
  · rw [show evictB l i = false from by unfold evictB; simp; omega]
    rw [show evictT l i = l from by unfold evictT; rw [if_neg hi]]
    have hi' : i < 0 := by omega
    clear hb ho hR h1 h2 h3 hform
    go_enter Try.func54, Try.ntmps54
    go_wp2
    go_ret
    exact ⟨rfl, own, Step.refl _ _ _, HT.out⟩
end
end Go.Proofs.Ytlgcplekcmocbaa

/- The document's page tables (citadelref04): wrong, number, misplaced, lets, put. -/
namespace Go.Proofs.Ytlgcplekcmocbaa
set_option linter.unusedVariables false
set_option linter.unusedSimpArgs false
open Go.RowKit
set_option maxRecDepth 100000

theorem bandN (e k : Nat) (he : e < 18446744073709551616) (hk : k < 18446744073709551616) {v : Bool} (hv : (e &&& k == 0) = v) : (bits .and .u64 (e : Int) (k : Int) == 0) = v ∧ (bits .and .u64 (e : Int) (k : Int) != 0) = !v := by
  rw [u64_and_nat _ _ he hk]
  have : (((e &&& k : Nat) : Int) == 0) = (e &&& k == 0) := by
    rw [Bool.eq_iff_iff, beq_iff_eq, beq_iff_eq]; omega
  exact ⟨by rw [this, hv], by unfold bne; rw [this, hv]⟩
theorem low8 (e k : Nat) (hk : 255 &&& k = k) : e &&& k = (e % 256) &&& k := by
  rw [show e % 256 = e &&& 255 from (Nat.and_two_pow_sub_one_eq_mod e 8).symm, Nat.and_assoc, hk]
theorem badE_eq (e : Nat) : badE e = ((e % 2 == 0) || (!(e &&& 4 == 0) && (e &&& 2 == 0)) || !(e / 18014398509481984 == 0)) := by
  have key : ∀ q : Nat, q < 256 → ((q &&& 1 == 0) || (q &&& 6 == 4)) = ((q % 2 == 0) || (!(q &&& 4 == 0) && (q &&& 2 == 0))) := by decide +kernel
  have := key (e % 256) (Nat.mod_lt _ (by decide))
  rw [← low8 e 1 (by decide), ← low8 e 6 (by decide), ← low8 e 4 (by decide), ← low8 e 2 (by decide), show e % 256 % 2 = e % 2 from by omega] at this
  unfold badE
  rw [this]
  rfl
theorem letE_eq (e acc : Nat) (ha : acc = 1 ∨ acc = 2 ∨ acc = 3) : letE e acc = (!(e &&& 16 == 0) && !(e &&& 64 == 0) && (if acc = 1 then !(e &&& 8 == 0) else if acc = 2 then !(e &&& 2 == 0) else !(e &&& 4 == 0) && !(e &&& 128 == 0))) := by
  have key : ∀ q : Nat, q < 256 → ∀ acc ∈ ([1, 2, 3] : List Nat), (q &&& wantN acc == wantN acc) = (!(q &&& 16 == 0) && !(q &&& 64 == 0) && (if acc = 1 then !(q &&& 8 == 0) else if acc = 2 then !(q &&& 2 == 0) else !(q &&& 4 == 0) && !(q &&& 128 == 0))) := by decide +kernel
  have := key (e % 256) (Nat.mod_lt _ (by decide)) acc (by simp; omega)
  rw [← low8 e 16 (by decide), ← low8 e 64 (by decide), ← low8 e 8 (by decide), ← low8 e 2 (by decide), ← low8 e 4 (by decide), ← low8 e 128 (by decide)] at this
  unfold letE
  rw [← this]
  rcases ha with rfl | rfl | rfl
  · rw [low8 e (wantN 1) (by decide)]
  · rw [low8 e (wantN 2) (by decide)]
  · rw [low8 e (wantN 3) (by decide)]
theorem permE_eq (e : Nat) : permE e = if !(e &&& 4 == 0) && !(e &&& 128 == 0) then (e &&& 10) ||| 4 else e &&& 10 := by
  have key : ∀ q : Nat, q < 256 → (if q &&& 128 = 128 then q &&& 14 else q &&& 10) = (if !(q &&& 4 == 0) && !(q &&& 128 == 0) then (q &&& 10) ||| 4 else q &&& 10) := by decide +kernel
  have := key (e % 256) (Nat.mod_lt _ (by decide))
  rw [← low8 e 128 (by decide), ← low8 e 14 (by decide), ← low8 e 10 (by decide), ← low8 e 4 (by decide)] at this
  unfold permE
  exact this
theorem rg_wrong (e : Nat) (he : e < 18446744073709551616) (w : World) : Calls Try.prog 85 #[.int .u64 (e : Int)] w fun r w' => r = .returned (.bool (badE e)) ∧ w = w' := by
  rw [badE_eq]
  obtain ⟨v4, hv4⟩ : ∃ v, (e &&& 4 == 0) = v := ⟨_, rfl⟩
  obtain ⟨v2, hv2⟩ : ∃ v, (e &&& 2 == 0) = v := ⟨_, rfl⟩
  obtain ⟨e4, f4⟩ := bandN e 4 he (by decide) hv4
  obtain ⟨e2, f2⟩ := bandN e 2 he (by decide) hv2
  rw [show ((4 : Nat) : Int) = 4 from rfl] at e4 f4
  rw [show ((2 : Nat) : Int) = 2 from rfl] at e2 f2
  rw [hv4, hv2]
  clear hv4 hv2
  by_cases h1 : e % 2 = 0
  · have h1d : (e : Int) % 2 = 0 := by omega
    rw [show (e % 2 == 0) = true from by simpa using h1]
    go_enter Try.func85, Try.ntmps85
    go_wp2
    go_ret
    exact ⟨rfl, rfl⟩
  · have h1d : ((e : Int) % 2 == 0) = false := by simp; omega
    rw [show (e % 2 == 0) = false from by simpa using h1]
    by_cases h3 : e / 18014398509481984 = 0
    · have h3d : (e : Int) / 18014398509481984 = 0 := by omega
      rw [show (e / 18014398509481984 == 0) = true from by simpa using h3]
      cases v4 <;> cases v2
      all_goals
        simp only [Bool.not_false, Bool.not_true] at f4 f2
        go_enter Try.func85, Try.ntmps85
        go_wp2
        go_ret
        exact ⟨rfl, rfl⟩
    · have h3d : ((e : Int) / 18014398509481984 == 0) = false := by simp; omega
      have h3n : ((e : Int) / 18014398509481984 != 0) = true := by simp; omega
      rw [show (e / 18014398509481984 == 0) = false from by simpa using h3]
      cases v4 <;> cases v2
      all_goals
        simp only [Bool.not_false, Bool.not_true] at f4 f2
        go_enter Try.func85, Try.ntmps85
        go_wp2
        go_ret
        exact ⟨rfl, rfl⟩
theorem rg_number (e : Nat) (he : e < 18446744073709551616) (w : World) : Calls Try.prog 86 #[.int .u64 (e : Int)] w fun r w' => r = .returned (.int .u64 (nxtE e : Int)) ∧ w = w' := by
  have hn := nxt_g e he
  go_enter Try.func86, Try.ntmps86
  go_wp2
  go_ret
  exact ⟨rfl, rfl⟩
theorem misE_eq (e lev : Nat) (hl : lev ≤ 2) : misE e lev = !(nxtE e % 2 ^ (9 * lev) == 0) := by
  unfold misE nxtE
  rw [show (17592186044416 : Nat) = 2 ^ (9 * lev) * 2 ^ (44 - 9 * lev) from by rw [← Nat.pow_add, show 9 * lev + (44 - 9 * lev) = 44 from by omega], Nat.mod_mul_right_mod]
  rfl
theorem rg_misplaced (e lev : Nat) (he : e < 18446744073709551616) (hl : lev ≤ 2) (w : World) : Calls Try.prog 87 #[.int .u64 (e : Int), .int .i64 (lev : Int)] w fun r w' => r = .returned (.bool (misE e lev)) ∧ w = w' := by
  have HN := Lib.hid (rg_number e he w)
  rw [misE_eq e lev hl]
  have hlt := nxt_lt e
  generalize nxtE e = N at *
  rcases (show lev = 0 ∨ lev = 1 ∨ lev = 2 by omega) with rfl | rfl | rfl
  · rw [show ((0 : Nat) : Int) = 0 from rfl, show (2 : Nat) ^ (9 * 0) = 1 from rfl, Nat.mod_one]
    have hq : (N : Int) % 1 = 0 := by omega
    go_enter Try.func87, Try.ntmps87
    go_wp2_with fail
    ((with_reducible refine HN.out.mono ?_); rintro e wz ⟨rfl, rfl⟩)
    go_wp2
    go_ret
    exact ⟨rfl, rfl⟩
  · rw [show ((1 : Nat) : Int) = 1 from rfl, show (2 : Nat) ^ (9 * 1) = 512 from rfl]
    obtain ⟨q, hq⟩ : ∃ q : Nat, N % 512 = q := ⟨_, rfl⟩
    have hq2 : (N : Int) % 512 = (q : Int) := by omega
    rw [hq]
    have hb : ((q : Int) != 0) = !(q == 0) := by rw [Bool.eq_iff_iff]; simp
    go_enter Try.func87, Try.ntmps87
    go_wp2_with fail
    ((with_reducible refine HN.out.mono ?_); rintro e wz ⟨rfl, rfl⟩)
    go_wp2
    go_ret
    exact ⟨by first | rfl | (simp), rfl⟩
  · rw [show ((2 : Nat) : Int) = 2 from rfl, show (2 : Nat) ^ (9 * 2) = 262144 from rfl]
    obtain ⟨q, hq⟩ : ∃ q : Nat, N % 262144 = q := ⟨_, rfl⟩
    have hq2 : (N : Int) % 262144 = (q : Int) := by omega
    rw [hq]
    have hb : ((q : Int) != 0) = !(q == 0) := by rw [Bool.eq_iff_iff]; simp
    go_enter Try.func87, Try.ntmps87
    go_wp2_with fail
    ((with_reducible refine HN.out.mono ?_); rintro e wz ⟨rfl, rfl⟩)
    go_wp2
    go_ret
    exact ⟨by first | rfl | (simp), rfl⟩
end Go.Proofs.Ytlgcplekcmocbaa

/- The document's page tables: lets, put, Guest. -/
namespace Go.Proofs.Ytlgcplekcmocbaa
set_option linter.unusedVariables false
set_option linter.unusedSimpArgs false
open Go.RowKit
set_option maxRecDepth 100000

theorem rg_lets (e acc : Nat) (he : e < 18446744073709551616) (hacc : acc = 2 ∨ acc = 3) (w : World) : Calls Try.prog 88 #[.int .u64 (e : Int), .int .i64 (acc : Int)] w fun r w' => r = .returned (.bool (letE e acc)) ∧ w = w' := by
  rw [letE_eq e acc (by omega)]
  obtain ⟨v16, hv16⟩ : ∃ v, (e &&& 16 == 0) = v := ⟨_, rfl⟩
  obtain ⟨v64, hv64⟩ : ∃ v, (e &&& 64 == 0) = v := ⟨_, rfl⟩
  obtain ⟨v2, hv2⟩ : ∃ v, (e &&& 2 == 0) = v := ⟨_, rfl⟩
  obtain ⟨v4, hv4⟩ : ∃ v, (e &&& 4 == 0) = v := ⟨_, rfl⟩
  obtain ⟨v128, hv128⟩ : ∃ v, (e &&& 128 == 0) = v := ⟨_, rfl⟩
  obtain ⟨e16, f16⟩ := bandN e 16 he (by decide) hv16
  obtain ⟨e64, f64⟩ := bandN e 64 he (by decide) hv64
  obtain ⟨e2, f2⟩ := bandN e 2 he (by decide) hv2
  obtain ⟨e4, f4⟩ := bandN e 4 he (by decide) hv4
  obtain ⟨e128, f128⟩ := bandN e 128 he (by decide) hv128
  simp only [show ((16 : Nat) : Int) = 16 from rfl, show ((64 : Nat) : Int) = 64 from rfl, show ((2 : Nat) : Int) = 2 from rfl, show ((4 : Nat) : Int) = 4 from rfl, show ((128 : Nat) : Int) = 128 from rfl] at e16 f16 e64 f64 e2 f2 e4 f4 e128 f128
  rw [hv16, hv64, hv2, hv4, hv128]
  clear hv16 hv64 hv2 hv4 hv128
  rcases hacc with rfl | rfl
  · rw [show ((2 : Nat) : Int) = 2 from rfl]
    clear e4 f4 e128 f128
    cases v16
    · cases v64
      · cases v2
        all_goals
          simp only [Bool.not_false, Bool.not_true] at f16 f64 f2
          go_enter Try.func88, Try.ntmps88
          go_wp2
          go_ret
          exact ⟨rfl, rfl⟩
      · simp only [Bool.not_false, Bool.not_true] at f16 f64
        clear e2 f2
        go_enter Try.func88, Try.ntmps88
        go_wp2
        go_ret
        exact ⟨rfl, rfl⟩
    · simp only [Bool.not_true] at f16
      clear e2 f2 e64 f64
      go_enter Try.func88, Try.ntmps88
      go_wp2
      go_ret
      exact ⟨rfl, rfl⟩
  · rw [show ((3 : Nat) : Int) = 3 from rfl]
    clear e2 f2
    cases v16
    · cases v64
      · cases v4
        · cases v128
          all_goals
            simp only [Bool.not_false, Bool.not_true] at f16 f64 f4 f128
            go_enter Try.func88, Try.ntmps88
            go_wp2
            go_ret
            exact ⟨rfl, rfl⟩
        · simp only [Bool.not_false, Bool.not_true] at f16 f64 f4
          clear e128 f128
          go_enter Try.func88, Try.ntmps88
          go_wp2
          go_ret
          exact ⟨rfl, rfl⟩
      · simp only [Bool.not_false, Bool.not_true] at f16 f64
        clear e4 f4 e128 f128
        go_enter Try.func88, Try.ntmps88
        go_wp2
        go_ret
        exact ⟨rfl, rfl⟩
    · simp only [Bool.not_true] at f16
      clear e4 f4 e128 f128 e64 f64
      go_enter Try.func88, Try.ntmps88
      go_wp2
      go_ret
      exact ⟨rfl, rfl⟩
set_option maxHeartbeats 1000000 in
theorem rg_put (e lev a : Nat) (he : e < 18446744073709551616) (hl : lev ≤ 2) (ha : a < 549755813888) (w : World) : Calls Try.prog 89 #[.agg #[.int .u64 (e : Int), .int .i64 (lev : Int)], .int .u64 (a : Int)] w fun r w' => r = .returned (.int .u64 (plcE e lev a : Int)) ∧ Upd (fun _ => False) w w' := by
  have HN := Lib.hid (fun w => rg_number e he w)
  have hlt := nxt_lt e
  unfold plcE
  generalize nxtE e = N at *
  have hB := Blk.new w 158 #[.int .u64 (e : Int), .int .i64 (lev : Int)]
  have c0 := hB.cell 0
  have c1 := hB.cell 1
  simp only [List.getElem?_toArray, List.getElem?_cons_zero, List.getElem?_cons_succ] at c0 c1
  have HU := Lib.hid (Upd.drew ((Upd.refl (fun _ => False) w).alloc (.cells #[.int .u64 (e : Int), .int .i64 (lev : Int)] 158)))
  clear hB
  rcases (show lev = 0 ∨ lev = 1 ∨ lev = 2 by omega) with rfl | rfl | rfl
  · rw [show ((0 : Nat) : Int) = 0 from rfl] at c1 HU ⊢
    rw [show (2 : Nat) ^ (12 + 9 * 0) = 4096 from rfl]
    obtain ⟨r, hr⟩ : ∃ r : Nat, a % 4096 = r := ⟨_, rfl⟩
    have hr2 : (a : Int) % 4096 = (r : Int) := by omega
    have hrl : r < 549755813888 := by omega
    rw [hr]
    go_enter Try.func89, Try.ntmps89
    go_wp2_with fail
    refine wpE_region (S := fun (W' : World) => W'.cell? ⟨w.heap.size, 0, none⟩ = some (.int .u64 (e : Int))) (s := 8) (by kernel_rfl) ?_
    have hS : (fun (W' : World) => W'.cell? ⟨w.heap.size, 0, none⟩ = some (.int .u64 (e : Int))) _ := c0
    refine wpE_take (i := 0) (oi := { dst := some 12, op := Go.Op.fieldAddr 158 (Go.Operand.tmp 2) 0, type := 0, pos := "ref.go:26", after := #[], guard := none }) (v := ?_) rfl (by kernel_rfl) (fun _ _ _ h => h) (Or.inl ⟨by rfl, fun W hW => ?_⟩) hS ?_
    rotate_left
    · have hw1 := hW; go_simp; (try go_bits); (try rw [if_pos (by omega)]); (try with_reducible rfl)
    (try simp only [Act.put, List.setIfInBounds_toArray, List.set_cons_succ, List.set_cons_zero])
    refine wpE_take (i := 1) (oi := { dst := some 13, op := Go.Op.load 22 (Go.Operand.tmp 12), type := 22, pos := "ref.go:26", after := #[{ on := 0, ground := Go.Ground.data }], guard := none }) (v := ?_) rfl (by kernel_rfl) (fun _ _ _ h => h) (Or.inl ⟨by rfl, fun W hW => ?_⟩) hS ?_
    rotate_left
    · have hw1 := hW; go_simp; (try go_bits); (try rw [if_pos (by omega)]); (try with_reducible rfl)
    (try simp only [Act.put, List.setIfInBounds_toArray, List.set_cons_succ, List.set_cons_zero])
    refine wpE_take (i := 4) (oi := { dst := some 16, op := Go.Op.move (Go.Operand.tmp 1), type := 22, pos := "ref.go:26", after := #[], guard := none }) (v := ?_) rfl (by kernel_rfl) (fun _ _ _ h => h) (Or.inl ⟨by rfl, fun W hW => ?_⟩) hS ?_
    rotate_left
    · have hw1 := hW; go_simp; (try go_bits); (try rw [if_pos (by omega)]); (try with_reducible rfl)
    (try simp only [Act.put, List.setIfInBounds_toArray, List.set_cons_succ, List.set_cons_zero])
    refine wpE_take (i := 5) (oi := { dst := some 17, op := Go.Op.move (Go.Operand.tmp 5), type := 22, pos := "ref.go:26", after := #[], guard := none }) (v := ?_) rfl (by kernel_rfl) (fun _ _ _ h => h) (Or.inl ⟨by rfl, fun W hW => ?_⟩) hS ?_
    rotate_left
    · have hw1 := hW; go_simp; (try go_bits); (try rw [if_pos (by omega)]); (try with_reducible rfl)
    (try simp only [Act.put, List.setIfInBounds_toArray, List.set_cons_succ, List.set_cons_zero])
    refine wpE_take (i := 6) (oi := { dst := some 18, op := Go.Op.binOp Go.BinOp.rem 22 (Go.Operand.tmp 16) (Go.Operand.tmp 17) 22, type := 22, pos := "ref.go:26", after := #[{ on := 4, ground := Go.Ground.data }, { on := 5, ground := Go.Ground.data }], guard := none }) (v := .int .u64 (r : Int)) rfl (by kernel_rfl) (fun _ _ _ h => h) (Or.inl ⟨by rfl, fun W hW => ?_⟩) hS ?_
    · have hw1 := hW; go_simp; (try go_bits); (try trivial)
    (try simp only [Act.put, List.setIfInBounds_toArray, List.set_cons_succ, List.set_cons_zero])
    refine wpE_only (i := 2) (oi := { dst := some 14, op := Go.Op.call { callee := Go.Callee.value (Go.Operand.func 86), args := #[Go.Operand.tmp 13], argTypes := #[22] }, type := 22, pos := "ref.go:26", after := #[{ on := 1, ground := Go.Ground.data }], guard := none }) rfl (by kernel_rfl) (by rfl) (fun K hK => ?_)
    go_simp; refine (HN.out _).mono ?_; rintro e wz ⟨rfl, rfl⟩; refine hK _ _ hS ?_; clear hK K
    (try simp only [Act.put, List.setIfInBounds_toArray, List.set_cons_succ, List.set_cons_zero])
    refine wpE_take (i := 3) (oi := { dst := some 15, op := Go.Op.binOp Go.BinOp.mul 22 (Go.Operand.tmp 14) (Go.Operand.const (Go.Value.int Go.IntKind.u64 4096)) 22, type := 22, pos := "ref.go:26", after := #[{ on := 2, ground := Go.Ground.data }], guard := none }) (v := .int .u64 ((N * 4096 : Nat) : Int)) rfl (by kernel_rfl) (fun _ _ _ h => h) (Or.inl ⟨by rfl, fun W hW => ?_⟩) hS ?_
    · have hw1 := hW; go_simp; (try go_bits); (try trivial)
    (try simp only [Act.put, List.setIfInBounds_toArray, List.set_cons_succ, List.set_cons_zero])
    refine wpE_take (i := 7) (oi := { dst := some 19, op := Go.Op.binOp Go.BinOp.add 22 (Go.Operand.tmp 15) (Go.Operand.tmp 18) 22, type := 22, pos := "ref.go:26", after := #[{ on := 3, ground := Go.Ground.data }, { on := 6, ground := Go.Ground.data }], guard := none }) (v := .int .u64 ((N * 4096 + r : Nat) : Int)) rfl (by kernel_rfl) (fun _ _ _ h => h) (Or.inl ⟨by rfl, fun W hW => ?_⟩) hS ?_
    · have hw1 := hW; go_simp; (try go_bits); (try trivial)
    (try simp only [Act.put, List.setIfInBounds_toArray, List.set_cons_succ, List.set_cons_zero])
    refine wpE_last (oi := { dst := some 4, op := Go.Op.assign (Go.Operand.tmp 19), type := 22, pos := "ref.go:26", after := #[{ on := 7, ground := Go.Ground.data }, { on := 2, ground := Go.Ground.chain }, { on := 0, ground := Go.Ground.phase }, { on := 1, ground := Go.Ground.phase }, { on := 2, ground := Go.Ground.phase }, { on := 3, ground := Go.Ground.phase }, { on := 4, ground := Go.Ground.phase }, { on := 5, ground := Go.Ground.phase }, { on := 6, ground := Go.Ground.phase }, { on := 7, ground := Go.Ground.phase }], guard := none }) rfl (by kernel_rfl) (by kernel_rfl) (by rfl) (fun K hK => ?_)
    go_simp; (try go_bits); refine hK _ _ ?_; clear hK K
    go_wp2
    go_ret
    exact ⟨rfl, HU.out⟩
  · rw [show ((1 : Nat) : Int) = 1 from rfl] at c1 HU ⊢
    rw [show (2 : Nat) ^ (12 + 9 * 1) = 2097152 from rfl]
    obtain ⟨r, hr⟩ : ∃ r : Nat, a % 2097152 = r := ⟨_, rfl⟩
    have hr2 : (a : Int) % 2097152 = (r : Int) := by omega
    have hrl : r < 549755813888 := by omega
    rw [hr]
    go_enter Try.func89, Try.ntmps89
    go_wp2_with fail
    refine wpE_region (S := fun (W' : World) => W'.cell? ⟨w.heap.size, 0, none⟩ = some (.int .u64 (e : Int))) (s := 8) (by kernel_rfl) ?_
    have hS : (fun (W' : World) => W'.cell? ⟨w.heap.size, 0, none⟩ = some (.int .u64 (e : Int))) _ := c0
    refine wpE_take (i := 0) (oi := { dst := some 12, op := Go.Op.fieldAddr 158 (Go.Operand.tmp 2) 0, type := 0, pos := "ref.go:26", after := #[], guard := none }) (v := ?_) rfl (by kernel_rfl) (fun _ _ _ h => h) (Or.inl ⟨by rfl, fun W hW => ?_⟩) hS ?_
    rotate_left
    · have hw1 := hW; go_simp; (try go_bits); (try rw [if_pos (by omega)]); (try with_reducible rfl)
    (try simp only [Act.put, List.setIfInBounds_toArray, List.set_cons_succ, List.set_cons_zero])
    refine wpE_take (i := 1) (oi := { dst := some 13, op := Go.Op.load 22 (Go.Operand.tmp 12), type := 22, pos := "ref.go:26", after := #[{ on := 0, ground := Go.Ground.data }], guard := none }) (v := ?_) rfl (by kernel_rfl) (fun _ _ _ h => h) (Or.inl ⟨by rfl, fun W hW => ?_⟩) hS ?_
    rotate_left
    · have hw1 := hW; go_simp; (try go_bits); (try rw [if_pos (by omega)]); (try with_reducible rfl)
    (try simp only [Act.put, List.setIfInBounds_toArray, List.set_cons_succ, List.set_cons_zero])
    refine wpE_take (i := 4) (oi := { dst := some 16, op := Go.Op.move (Go.Operand.tmp 1), type := 22, pos := "ref.go:26", after := #[], guard := none }) (v := ?_) rfl (by kernel_rfl) (fun _ _ _ h => h) (Or.inl ⟨by rfl, fun W hW => ?_⟩) hS ?_
    rotate_left
    · have hw1 := hW; go_simp; (try go_bits); (try rw [if_pos (by omega)]); (try with_reducible rfl)
    (try simp only [Act.put, List.setIfInBounds_toArray, List.set_cons_succ, List.set_cons_zero])
    refine wpE_take (i := 5) (oi := { dst := some 17, op := Go.Op.move (Go.Operand.tmp 5), type := 22, pos := "ref.go:26", after := #[], guard := none }) (v := ?_) rfl (by kernel_rfl) (fun _ _ _ h => h) (Or.inl ⟨by rfl, fun W hW => ?_⟩) hS ?_
    rotate_left
    · have hw1 := hW; go_simp; (try go_bits); (try rw [if_pos (by omega)]); (try with_reducible rfl)
    (try simp only [Act.put, List.setIfInBounds_toArray, List.set_cons_succ, List.set_cons_zero])
    refine wpE_take (i := 6) (oi := { dst := some 18, op := Go.Op.binOp Go.BinOp.rem 22 (Go.Operand.tmp 16) (Go.Operand.tmp 17) 22, type := 22, pos := "ref.go:26", after := #[{ on := 4, ground := Go.Ground.data }, { on := 5, ground := Go.Ground.data }], guard := none }) (v := .int .u64 (r : Int)) rfl (by kernel_rfl) (fun _ _ _ h => h) (Or.inl ⟨by rfl, fun W hW => ?_⟩) hS ?_
    · have hw1 := hW; go_simp; (try go_bits); (try trivial)
    (try simp only [Act.put, List.setIfInBounds_toArray, List.set_cons_succ, List.set_cons_zero])
    refine wpE_only (i := 2) (oi := { dst := some 14, op := Go.Op.call { callee := Go.Callee.value (Go.Operand.func 86), args := #[Go.Operand.tmp 13], argTypes := #[22] }, type := 22, pos := "ref.go:26", after := #[{ on := 1, ground := Go.Ground.data }], guard := none }) rfl (by kernel_rfl) (by rfl) (fun K hK => ?_)
    go_simp; refine (HN.out _).mono ?_; rintro e wz ⟨rfl, rfl⟩; refine hK _ _ hS ?_; clear hK K
    (try simp only [Act.put, List.setIfInBounds_toArray, List.set_cons_succ, List.set_cons_zero])
    refine wpE_take (i := 3) (oi := { dst := some 15, op := Go.Op.binOp Go.BinOp.mul 22 (Go.Operand.tmp 14) (Go.Operand.const (Go.Value.int Go.IntKind.u64 4096)) 22, type := 22, pos := "ref.go:26", after := #[{ on := 2, ground := Go.Ground.data }], guard := none }) (v := .int .u64 ((N * 4096 : Nat) : Int)) rfl (by kernel_rfl) (fun _ _ _ h => h) (Or.inl ⟨by rfl, fun W hW => ?_⟩) hS ?_
    · have hw1 := hW; go_simp; (try go_bits); (try trivial)
    (try simp only [Act.put, List.setIfInBounds_toArray, List.set_cons_succ, List.set_cons_zero])
    refine wpE_take (i := 7) (oi := { dst := some 19, op := Go.Op.binOp Go.BinOp.add 22 (Go.Operand.tmp 15) (Go.Operand.tmp 18) 22, type := 22, pos := "ref.go:26", after := #[{ on := 3, ground := Go.Ground.data }, { on := 6, ground := Go.Ground.data }], guard := none }) (v := .int .u64 ((N * 4096 + r : Nat) : Int)) rfl (by kernel_rfl) (fun _ _ _ h => h) (Or.inl ⟨by rfl, fun W hW => ?_⟩) hS ?_
    · have hw1 := hW; go_simp; (try go_bits); (try trivial)
    (try simp only [Act.put, List.setIfInBounds_toArray, List.set_cons_succ, List.set_cons_zero])
    refine wpE_last (oi := { dst := some 4, op := Go.Op.assign (Go.Operand.tmp 19), type := 22, pos := "ref.go:26", after := #[{ on := 7, ground := Go.Ground.data }, { on := 2, ground := Go.Ground.chain }, { on := 0, ground := Go.Ground.phase }, { on := 1, ground := Go.Ground.phase }, { on := 2, ground := Go.Ground.phase }, { on := 3, ground := Go.Ground.phase }, { on := 4, ground := Go.Ground.phase }, { on := 5, ground := Go.Ground.phase }, { on := 6, ground := Go.Ground.phase }, { on := 7, ground := Go.Ground.phase }], guard := none }) rfl (by kernel_rfl) (by kernel_rfl) (by rfl) (fun K hK => ?_)
    go_simp; (try go_bits); refine hK _ _ ?_; clear hK K
    go_wp2
    go_ret
    exact ⟨rfl, HU.out⟩
  · rw [show ((2 : Nat) : Int) = 2 from rfl] at c1 HU ⊢
    rw [show (2 : Nat) ^ (12 + 9 * 2) = 1073741824 from rfl]
    obtain ⟨r, hr⟩ : ∃ r : Nat, a % 1073741824 = r := ⟨_, rfl⟩
    have hr2 : (a : Int) % 1073741824 = (r : Int) := by omega
    have hrl : r < 549755813888 := by omega
    rw [hr]
    go_enter Try.func89, Try.ntmps89
    go_wp2_with fail
    refine wpE_region (S := fun (W' : World) => W'.cell? ⟨w.heap.size, 0, none⟩ = some (.int .u64 (e : Int))) (s := 8) (by kernel_rfl) ?_
    have hS : (fun (W' : World) => W'.cell? ⟨w.heap.size, 0, none⟩ = some (.int .u64 (e : Int))) _ := c0
    refine wpE_take (i := 0) (oi := { dst := some 12, op := Go.Op.fieldAddr 158 (Go.Operand.tmp 2) 0, type := 0, pos := "ref.go:26", after := #[], guard := none }) (v := ?_) rfl (by kernel_rfl) (fun _ _ _ h => h) (Or.inl ⟨by rfl, fun W hW => ?_⟩) hS ?_
    rotate_left
    · have hw1 := hW; go_simp; (try go_bits); (try rw [if_pos (by omega)]); (try with_reducible rfl)
    (try simp only [Act.put, List.setIfInBounds_toArray, List.set_cons_succ, List.set_cons_zero])
    refine wpE_take (i := 1) (oi := { dst := some 13, op := Go.Op.load 22 (Go.Operand.tmp 12), type := 22, pos := "ref.go:26", after := #[{ on := 0, ground := Go.Ground.data }], guard := none }) (v := ?_) rfl (by kernel_rfl) (fun _ _ _ h => h) (Or.inl ⟨by rfl, fun W hW => ?_⟩) hS ?_
    rotate_left
    · have hw1 := hW; go_simp; (try go_bits); (try rw [if_pos (by omega)]); (try with_reducible rfl)
    (try simp only [Act.put, List.setIfInBounds_toArray, List.set_cons_succ, List.set_cons_zero])
    refine wpE_take (i := 4) (oi := { dst := some 16, op := Go.Op.move (Go.Operand.tmp 1), type := 22, pos := "ref.go:26", after := #[], guard := none }) (v := ?_) rfl (by kernel_rfl) (fun _ _ _ h => h) (Or.inl ⟨by rfl, fun W hW => ?_⟩) hS ?_
    rotate_left
    · have hw1 := hW; go_simp; (try go_bits); (try rw [if_pos (by omega)]); (try with_reducible rfl)
    (try simp only [Act.put, List.setIfInBounds_toArray, List.set_cons_succ, List.set_cons_zero])
    refine wpE_take (i := 5) (oi := { dst := some 17, op := Go.Op.move (Go.Operand.tmp 5), type := 22, pos := "ref.go:26", after := #[], guard := none }) (v := ?_) rfl (by kernel_rfl) (fun _ _ _ h => h) (Or.inl ⟨by rfl, fun W hW => ?_⟩) hS ?_
    rotate_left
    · have hw1 := hW; go_simp; (try go_bits); (try rw [if_pos (by omega)]); (try with_reducible rfl)
    (try simp only [Act.put, List.setIfInBounds_toArray, List.set_cons_succ, List.set_cons_zero])
    refine wpE_take (i := 6) (oi := { dst := some 18, op := Go.Op.binOp Go.BinOp.rem 22 (Go.Operand.tmp 16) (Go.Operand.tmp 17) 22, type := 22, pos := "ref.go:26", after := #[{ on := 4, ground := Go.Ground.data }, { on := 5, ground := Go.Ground.data }], guard := none }) (v := .int .u64 (r : Int)) rfl (by kernel_rfl) (fun _ _ _ h => h) (Or.inl ⟨by rfl, fun W hW => ?_⟩) hS ?_
    · have hw1 := hW; go_simp; (try go_bits); (try trivial)
    (try simp only [Act.put, List.setIfInBounds_toArray, List.set_cons_succ, List.set_cons_zero])
    refine wpE_only (i := 2) (oi := { dst := some 14, op := Go.Op.call { callee := Go.Callee.value (Go.Operand.func 86), args := #[Go.Operand.tmp 13], argTypes := #[22] }, type := 22, pos := "ref.go:26", after := #[{ on := 1, ground := Go.Ground.data }], guard := none }) rfl (by kernel_rfl) (by rfl) (fun K hK => ?_)
    go_simp; refine (HN.out _).mono ?_; rintro e wz ⟨rfl, rfl⟩; refine hK _ _ hS ?_; clear hK K
    (try simp only [Act.put, List.setIfInBounds_toArray, List.set_cons_succ, List.set_cons_zero])
    refine wpE_take (i := 3) (oi := { dst := some 15, op := Go.Op.binOp Go.BinOp.mul 22 (Go.Operand.tmp 14) (Go.Operand.const (Go.Value.int Go.IntKind.u64 4096)) 22, type := 22, pos := "ref.go:26", after := #[{ on := 2, ground := Go.Ground.data }], guard := none }) (v := .int .u64 ((N * 4096 : Nat) : Int)) rfl (by kernel_rfl) (fun _ _ _ h => h) (Or.inl ⟨by rfl, fun W hW => ?_⟩) hS ?_
    · have hw1 := hW; go_simp; (try go_bits); (try trivial)
    (try simp only [Act.put, List.setIfInBounds_toArray, List.set_cons_succ, List.set_cons_zero])
    refine wpE_take (i := 7) (oi := { dst := some 19, op := Go.Op.binOp Go.BinOp.add 22 (Go.Operand.tmp 15) (Go.Operand.tmp 18) 22, type := 22, pos := "ref.go:26", after := #[{ on := 3, ground := Go.Ground.data }, { on := 6, ground := Go.Ground.data }], guard := none }) (v := .int .u64 ((N * 4096 + r : Nat) : Int)) rfl (by kernel_rfl) (fun _ _ _ h => h) (Or.inl ⟨by rfl, fun W hW => ?_⟩) hS ?_
    · have hw1 := hW; go_simp; (try go_bits); (try trivial)
    (try simp only [Act.put, List.setIfInBounds_toArray, List.set_cons_succ, List.set_cons_zero])
    refine wpE_last (oi := { dst := some 4, op := Go.Op.assign (Go.Operand.tmp 19), type := 22, pos := "ref.go:26", after := #[{ on := 7, ground := Go.Ground.data }, { on := 2, ground := Go.Ground.chain }, { on := 0, ground := Go.Ground.phase }, { on := 1, ground := Go.Ground.phase }, { on := 2, ground := Go.Ground.phase }, { on := 3, ground := Go.Ground.phase }, { on := 4, ground := Go.Ground.phase }, { on := 5, ground := Go.Ground.phase }, { on := 6, ground := Go.Ground.phase }, { on := 7, ground := Go.Ground.phase }], guard := none }) rfl (by kernel_rfl) (by kernel_rfl) (by rfl) (fun K hK => ?_)
    go_simp; (try go_bits); refine hK _ _ ?_; clear hK K
    go_wp2
    go_ret
    exact ⟨rfl, HU.out⟩
theorem dnG_step (n : Nat) (m : Nat → Int) (a : Nat) (L T : Nat) (hl : L ≤ 2) : dnG 0 n m a L T = if n ≤ T then (3, 0, 0) else if badE (ent m T (a / 2 ^ (12 + 9 * L) % 512)) then (1, 0, 0) else if leafE (ent m T (a / 2 ^ (12 + 9 * L) % 512)) then (if misE (ent m T (a / 2 ^ (12 + 9 * L) % 512)) L then (1, 0, 0) else (0, ent m T (a / 2 ^ (12 + 9 * L) % 512), L)) else (match L with | 0 => (1, 0, 0) | L + 1 => dnG 0 n m a L (nxtE (ent m T (a / 2 ^ (12 + 9 * L.succ) % 512)))) := by
  have ho : outG 0 n T ↔ n ≤ T := by unfold outG; omega
  have h0 : misE (ent m T (a / 2 ^ 12 % 512)) 0 = false := by unfold misE; rw [show (2 : Nat) ^ (9 * 0) = 1 from rfl, Nat.mod_one]; rfl
  rcases (show L = 0 ∨ L = 1 ∨ L = 2 by omega) with rfl | rfl | rfl
  · unfold dnG
    simp only [ho, Nat.sub_zero, show 12 + 9 * 0 = 12 from rfl, h0, Bool.false_eq_true, if_false]
  · conv => lhs; unfold dnG
    simp only [ho, Nat.sub_zero, show 12 + 9 * 1 = 21 from rfl, show 12 + 9 * Nat.succ 0 = 21 from rfl]
  · conv => lhs; unfold dnG
    simp only [ho, Nat.sub_zero, show 12 + 9 * 2 = 30 from rfl, show 12 + 9 * Nat.succ 1 = 30 from rfl]
/-- what Guest comes to from what down tells -/
def gOut (D : Int × Nat × Nat) (a acc : Nat) : Nat × Nat × Int := if D.1 = 3 then (0, 0, 3) else if D.1 = 0 ∧ letE D.2.1 acc = true then (plcE D.2.1 D.2.2 a, permE D.2.1, 0) else (0, 0, 2)
theorem guestP_out {n : Nat} {m : Nat → Int} {root a acc : Nat} (hr : root ≠ 0) (ha : ¬ 549755813888 ≤ a) : guestP 0 n m root a acc = gOut (dnG 0 n m a 2 root) a acc := by
  unfold guestP gOut
  rw [if_neg hr, if_neg ha]
end Go.Proofs.Ytlgcplekcmocbaa
