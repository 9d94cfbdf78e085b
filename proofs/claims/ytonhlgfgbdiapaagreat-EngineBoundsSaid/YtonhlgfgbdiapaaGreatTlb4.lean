import Derived.Test.YtonhlgfgbdiapaaGreatTlb2
import Derived.Test.YtonhlgfgbdiapaaGreatMake
/- The TLB: Look, Evict. -/
namespace Go.Proofs.YtonhlgfgbdiapaaGreat
set_option linter.unusedVariables false
set_option linter.unusedSimpArgs false
open Go.RowKit
set_option maxRecDepth 100000

/-- the entry of a page -/
def lookT (l : List Tr) (v p : Int) : Option Tr := l.find? (fun t => t.v == v && t.p == p)
def tr0 : Tr := ⟨0, 0, 0, 0⟩
theorem look_found {l : List Tr} {v p : Int} {k : Nat} {x : Tr} (h : lookT (l.take k) v p = none) (hx : l[k]? = some x) (hm : (x.v == v && x.p == p) = true) : lookT l v p = some x := by
  have hlt : k < l.length := (List.getElem?_eq_some_iff.1 hx).1
  have e : l = l.take k ++ (x :: l.drop (k + 1)) := by
    have := (List.getElem?_eq_some_iff.1 hx).2
    rw [← this, ← List.drop_eq_getElem_cons hlt, List.take_append_drop]
  unfold lookT at h ⊢
  rw [e, List.find?_append, h]
  simp only [Option.none_or, List.find?_cons, hm]
theorem look_next {l : List Tr} {v p : Int} {k : Nat} {x : Tr} (h : lookT (l.take k) v p = none) (hx : l[k]? = some x) (hm : (x.v == v && x.p == p) = false) : lookT (l.take (k + 1)) v p = none := by
  rw [List.take_add_one, hx]
  unfold lookT at h ⊢
  rw [List.find?_append, h]
  simp only [Option.none_or, Option.toList, List.find?_cons, hm, List.find?_nil]
section
variable {own own' : Nat → Nat} {c d p room : Nat} {w w' : World} {l : List Tr}
set_option maxHeartbeats 4000000 in
theorem tlb_Look (h : TlbAt own c d w p room l) (v pg : Int) :
    Calls Tryz.prog 65 #[.pointer (some ⟨p, 0, none⟩), .int .i64 v, .int .u64 pg] w fun e w' =>
      e = .returned (.tuple #[.agg #[.int .i64 ((lookT l v pg).getD tr0).v, .int .u64 ((lookT l v pg).getD tr0).p, .int .u64 ((lookT l v pg).getD tr0).f, .int .i64 ((lookT l v pg).getD tr0).r], .bool (lookT l v pg).isSome]) ∧ Upd (fun _ => False) w w' := by
  obtain ⟨⟨v1, hb, ho, hR⟩, h1, h2, h3⟩ := h
  have c1 : w.cell? ⟨p, 1, none⟩ = some v1 := hb.cell 1
  have hlt := hb.lt
  obtain ⟨A, cap, rfl, hcap, hform⟩ := hR.form
  have HR := Lib.hid hform
  have hB := Blk.new w 153 #[.int .i64 0, .int .u64 0, .int .u64 0, .int .i64 0]
  have hU := (Upd.refl (fun _ => False) w).alloc (.cells #[.int .i64 0, .int .u64 0, .int .u64 0, .int .i64 0] 153)
  have hlen : l.length ≤ 64 := by omega
  have H0 := Lib.hid (And.intro hB hU)
  clear hb ho hR h1 h2 h3 hform hB hU
  go_enter Tryz.func65, Tryz.ntmps65
  go_wp2
  generalize hrb : w.heap.size = rb at *
  go_loopw [15] (fun i wr => ∃ (k : Nat), k ≤ l.length ∧ i = .int .i64 (k : Int) ∧ Hid (lookT (l.take k) v pg = none ∧ Blk wr rb 153 #[.int .i64 0, .int .u64 0, .int .u64 0, .int .i64 0] ∧ Upd (fun _ => False) w wr)) (fun i _ => l.length - (intOf i).toNat)
  case atStart => exact ⟨0, by omega, rfl, rfl, H0.out⟩
  case round =>
    rename World => wr
    obtain ⟨k, hk, rfl, HL⟩ := hrel
    clear H0
    obtain ⟨hn, hB, hU⟩ := HL.out
    have z0 := hB.frozen 0
    have z1 := hB.frozen 1
    have z2 := hB.frozen 2
    have z3 := hB.frozen 3
    have x0 := hB.cell 0
    have x1 := hB.cell 1
    have x2 := hB.cell 2
    have x3 := hB.cell 3
    simp only [List.getElem?_toArray, List.getElem?_cons_zero, List.getElem?_cons_succ] at x0 x1 x2 x3
    have hlr := hB.lt
    by_cases hlt : k < l.length
    · obtain ⟨g, o, rfl, hg, hgl, _, hc⟩ := HR.out (by omega)
      have hget : l[k]? = some l[k] := List.getElem?_eq_getElem hlt
      obtain ⟨q0, q1, q2, q3⟩ := trsC_at l k _ hget
      have c0 := (hU.cell (p := ⟨g, o + k * 4, none⟩) (by rw [hrb]; exact hgl) (fun h => h)).trans (hc _ _ q0)
      have c1 := (hU.cell (p := ⟨g, o + (k * 4 + 1), none⟩) (by rw [hrb]; exact hgl) (fun h => h)).trans (hc _ _ q1)
      have c2 := (hU.cell (p := ⟨g, o + (k * 4 + 2), none⟩) (by rw [hrb]; exact hgl) (fun h => h)).trans (hc _ _ q2)
      have c3 := (hU.cell (p := ⟨g, o + (k * 4 + 3), none⟩) (by rw [hrb]; exact hgl) (fun h => h)).trans (hc _ _ q3)
      simp only [← Nat.add_assoc] at c1 c2 c3
      obtain ⟨⟨xv, xp, xf, xr⟩, hx⟩ : ∃ x, l[k] = x := ⟨_, rfl⟩
      rw [hx] at hget c0 c1 c2 c3
      have hlt' : (k : Int) < (l.length : Int) := by omega
      have HN := Lib.hid (And.intro hn (And.intro hget (And.intro hB hU)))
      clear hn hB hU hget q0 q1 q2 q3 hc HL hx
      by_cases hm : xv = v
      · subst hm
        by_cases hp : xp = pg
        · subst hp
          have HF := Lib.hid (look_found HN.out.1 HN.out.2.1 (by simp))
          go_wp2
          refine bodyPost_ret (results_cell_tmp_row rfl _ _ rb 153 #[.int .i64 xv, .int .u64 xp, .int .u64 xf, .int .i64 xr] _ rfl (((((HN.out.2.2.1.set_ 0 (.int .i64 xv)).set_ 1 (.int .u64 xp)).set_ 2 (.int .u64 xf)).set_ 3 (.int .i64 xr)).alloc (.cells #[.int .i64 xv, .int .u64 xp, .int .u64 xf, .int .i64 xr] 153)) Tryz.underlying153 rfl (by kernel_rfl)) rfl ?_
          rw [HF.out]
          exact ⟨rfl, (HN.out.2.2.2.setCell (p := ⟨rb, 0, none⟩) (.inr (Nat.le_of_eq hrb)) _ |>.setCell (p := ⟨rb, 1, none⟩) (.inr (Nat.le_of_eq hrb)) _ |>.setCell (p := ⟨rb, 2, none⟩) (.inr (Nat.le_of_eq hrb)) _ |>.setCell (p := ⟨rb, 3, none⟩) (.inr (Nat.le_of_eq hrb)) _).alloc _⟩
        · have hpd : (xp == pg) = false := by simpa using hp
          have HX := Lib.hid (look_next HN.out.1 HN.out.2.1 (by simp [hpd]))
          go_wp2
          exact ⟨⟨k + 1, by omega, by go_num, HX.out, HN.out.2.2.1.alloc _, HN.out.2.2.2.alloc _⟩, by simp [intOf]; omega⟩
      · have hmd : (xv == v) = false := by simpa using hm
        have HX := Lib.hid (look_next HN.out.1 HN.out.2.1 (by simp [hmd]))
        go_wp2
        exact ⟨⟨k + 1, by omega, by go_num, HX.out, HN.out.2.2.1.alloc _, HN.out.2.2.2.alloc _⟩, by simp [intOf]; omega⟩
    · obtain rfl : k = l.length := by omega
      rw [List.take_length] at hn
      have HN := Lib.hid (And.intro hn (And.intro hB hU))
      clear hn hB hU HL
      go_wp2
      refine bodyPost_ret (results_cell_tmp_row rfl _ _ rb 153 #[.int .i64 0, .int .u64 0, .int .u64 0, .int .i64 0] _ rfl (((HN.out.2.1.set_ 0 (.int .i64 0)).set_ 1 (.int .u64 0)).set_ 2 (.int .u64 0) |>.set_ 3 (.int .i64 0)) Tryz.underlying153 rfl (by kernel_rfl)) rfl ?_
      rw [HN.out.1]
      exact ⟨rfl, HN.out.2.2.setCell (p := ⟨rb, 0, none⟩) (.inr (Nat.le_of_eq hrb)) _ |>.setCell (p := ⟨rb, 1, none⟩) (.inr (Nat.le_of_eq hrb)) _ |>.setCell (p := ⟨rb, 2, none⟩) (.inr (Nat.le_of_eq hrb)) _ |>.setCell (p := ⟨rb, 3, none⟩) (.inr (Nat.le_of_eq hrb)) _⟩
/-- what an eviction does -/
def evictT (l : List Tr) (i : Int) : List Tr := if 0 ≤ i then (match l[i.toNat]? with | some t => flushP l t.v t.p | none => l) else l
def evictB (l : List Tr) (i : Int) : Bool := decide (0 ≤ i ∧ i < l.length)
theorem tlb_Evict (h : TlbAt own c d w p room l) (hcd : c ≠ d) (i : Int) :
    Calls Tryz.prog 112 #[.pointer (some ⟨p, 0, none⟩), .int .i64 i] w fun e w' => e = .returned (.bool (evictB l i)) ∧ ∃ own', Step (· = c) own w own' w' ∧ TlbAt own' c d w' p room (evictT l i) := by
  have HT := Lib.hid h
  obtain ⟨⟨v1, hb, ho, hR⟩, h1, h2, h3⟩ := h
  have c1 : w.cell? ⟨p, 1, none⟩ = some v1 := hb.cell 1
  have hlt := hb.lt
  obtain ⟨A, cap, rfl, hcap, hform⟩ := hR.form
  by_cases hi : 0 ≤ i
  · obtain ⟨k, rfl⟩ := Int.eq_ofNat_of_zero_le hi
    by_cases hk : k < l.length
    · rw [show evictB l (k : Int) = true from by unfold evictB; simp; omega]
      have hget : l[k]? = some l[k] := List.getElem?_eq_getElem hk
      rw [show evictT l (k : Int) = flushP l l[k].v l[k].p from by unfold evictT; rw [if_pos (by omega), Int.toNat_natCast, hget]]
      obtain ⟨g, o, rfl, hg, hgl, _, hc⟩ := hform (by omega)
      obtain ⟨q0, q1, q2, q3⟩ := trsC_at l k _ hget
      have d0 := hc _ _ q0
      have d1 := hc _ _ q1
      have d2 := hc _ _ q2
      have d3 := hc _ _ q3
      simp only [← Nat.add_assoc] at d1 d2 d3
      generalize l[k] = x at *
      obtain ⟨xv, xp, xf, xr⟩ := x
      simp only [] at d0 d1 d2 d3 ⊢
      have hst := step_allocS own w (.cells #[.int .i64 xv, .int .u64 xp, .int .u64 xf, .int .i64 xr] 153)
      have HF := Lib.hid (tlb_FlushPage (HT.out.step hst (fun h => h) (fun h => h)) hcd xv xp)
      have HS := Lib.hid (hst.mono (C' := (· = c)) (fun _ h => h.elim))
      have hk' : (k : Int) < (l.length : Int) := by omega
      clear hb ho hR h1 h2 h3 hform hget q0 q1 q2 q3 hc hst HT
      go_enter Tryz.func112, Tryz.ntmps112
      go_wp2_with fail
      ((with_reducible refine HF.out.mono ?_); rintro e w1 ⟨rfl, own1, hS1, hT1⟩)
      have H1 := Lib.hid (And.intro (HS.out.trans hS1) hT1)
      clear hS1 hT1 HF HS
      go_wp2
      go_ret
      exact ⟨rfl, own1, H1.out⟩
    · rw [show evictB l (k : Int) = false from by unfold evictB; simp; omega]
      rw [show evictT l (k : Int) = l from by unfold evictT; rw [if_pos (by omega), Int.toNat_natCast, List.getElem?_eq_none (by omega)]]
      have hk' : (l.length : Int) ≤ (k : Int) := by omega
      clear hb ho hR h1 h2 h3 hform
      go_enter Tryz.func112, Tryz.ntmps112
      go_wp2
      go_ret
      exact ⟨rfl, own, Step.refl _ _ _, HT.out⟩
  · rw [show evictB l i = false from by unfold evictB; simp; omega]
    rw [show evictT l i = l from by unfold evictT; rw [if_neg hi]]
    have hi' : i < 0 := by omega
    clear hb ho hR h1 h2 h3 hform
    go_enter Tryz.func112, Tryz.ntmps112
    go_wp2
    go_ret
    exact ⟨rfl, own, Step.refl _ _ _, HT.out⟩
end
end Go.Proofs.YtonhlgfgbdiapaaGreat
