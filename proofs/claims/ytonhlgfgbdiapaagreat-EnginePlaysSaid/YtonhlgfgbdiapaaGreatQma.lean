import Derived.Test.YtonhlgfgbdiapaaGreatIoN
import Derived.Test.YtonhlgfgbdiapaaGreatTlb3
import Derived.Test.YtonhlgfgbdiapaaGreatIoR
import Derived.Test.YtonhlgfgbdiapaaGreatIo5
import Derived.Test.YtonhlgfgbdiapaaGreatMref3
import Derived.Test.YtonhlgfgbdiapaaGreatTlb4
import Derived.Test.YtonhlgfgbdiapaaGreatIo4
import Derived.Test.YtonhlgfgbdiapaaGreatIoA
import Derived.Test.YtonhlgfgbdiapaaGreatPlace
import Derived.Test.YtonhlgfgbdiapaaGreatTref
import Derived.Test.YtonhlgfgbdiapaaGreatGst2
/- One side of a law over the IOMMU: its state; Access, Set, Invalidate, Entries; what is remembered does not matter. -/
namespace Go.Proofs.YtonhlgfgbdiapaaGreat
set_option linter.unusedVariables false
set_option linter.unusedSimpArgs false
open Go.RowKit
set_option maxRecDepth 100000

/-- the colours of one side from K on -/
structure Sd (K : Nat) (own : Nat → Nat) (w : World) (p rp tp r : Nat) (s : Us) (m : Nat → Int) (l : List Tr) : Prop where
  u : UsAt own (K + 1) w p rp tp s
  mm : MemAt ramK own (K + 2) w rp 0 8 m
  t : TlbAt own (K + 3) (K + 4) w tp r l
  ok : UsOk 8 s
  el : EntsOk l
section
variable {K : Nat} {own own' : Nat → Nat} {w w' : World} {p rp tp r : Nat} {s : Us} {m : Nat → Int} {l : List Tr}
theorem io_Invalidate {c ct cd : Nat} (hU : UsAt own c w p rp tp s) (hT : TlbAt own ct cd w tp r l) (hcd : ct ≠ cd) (dev : Int) :
    Calls Tryz.prog 88 #[.pointer (some ⟨p, 0, none⟩), .int .i64 dev] w fun e w' => e = .returned (.tuple #[]) ∧ ∃ own', Step (· = ct) own w own' w' ∧ TlbAt own' ct cd w' tp r (flushT l dev) := by
  obtain ⟨c0, c1, _⟩ := hU.rest
  have HF := Lib.hid (tlb_Flush hT hcd dev)
  clear hU hT
  go_enter Tryz.func88, Tryz.ntmps88
  go_wp2_with fail
  ((with_reducible refine HF.out.mono ?_); rintro e w1 ⟨rfl, h1⟩)
  have H1 := Lib.hid h1
  clear h1 HF
  go_wp2
  go_end0
  exact ⟨rfl, H1.out⟩
theorem io_Entries {c ct cd : Nat} (hU : UsAt own c w p rp tp s) (hT : TlbAt own ct cd w tp r l) (d' : Nat) :
    Calls Tryz.prog 26 #[.pointer (some ⟨p, 0, none⟩)] w fun e w' => ∃ v', e = .returned v' ∧ Step (fun _ => False) own w (ext own w d') w' ∧ Rw 153 4 (ext own w d') d' w' v' l.length (trsC l) := by
  obtain ⟨c0, c1, _⟩ := hU.rest
  have HE := Lib.hid (tlb_Entries hT d')
  clear hU hT
  go_enter Tryz.func26, Tryz.ntmps26
  go_wp2_with fail
  ((with_reducible refine HE.out.mono ?_); rintro e w1 ⟨v, rfl, h1, h2⟩)
  have H1 := Lib.hid (And.intro h1 h2)
  obtain ⟨A2, cap2, hv2, _⟩ := h2.form
  subst hv2
  clear h1 h2 HE
  go_wp2
  go_ret
  exact ⟨_, rfl, H1.out⟩
theorem EntsOk.flush (h : EntsOk l) (v : Int) : EntsOk (flushT l v) := fun t ht => h t (List.mem_filter.1 ht).1
end
end Go.Proofs.YtonhlgfgbdiapaaGreat

/- A table of one page of tables, in plain numbers. -/
namespace Go.Proofs.YtonhlgfgbdiapaaGreat
set_option linter.unusedVariables false
set_option linter.unusedSimpArgs false
open Go.RowKit
set_option maxRecDepth 100000

/-- what stands in the tables: page 1, entry 0, tells page 2; page 2, entry 0, tells page 3 -/
structure Tab (m : Nat → Int) : Prop where
  a : ent m 1 0 = 2049
  b : ent m 2 0 = 3073
/-- one IOMMU, and what a law carries along -/
structure S1 (w0 : World) (own : Nat → Nat) (w : World) (p q rp tp p2 xo r : Nat) (s : Us) (m : Nat → Int) (l : List Tr) : Prop where
  st : Step (fun x => x ≠ 0 ∧ x < 50) (fun _ => 0) w0 own w
  a : Sd 0 own w p rp tp r s m l
  o : Blk w xo 36 #[.pointer (some ⟨p, 0, none⟩), .pointer (some ⟨q, 0, none⟩), .pointer (some ⟨rp, 0, none⟩), .pointer (some ⟨p2, 0, none⟩)] ∧ own xo = 50
section
variable {w0 w w' : World} {own own' : Nat → Nat} {p q rp tp p2 xo r : Nat} {s s2 : Us} {m m2 : Nat → Int} {l l2 : List Tr}
end
end Go.Proofs.YtonhlgfgbdiapaaGreat

/- The document's IOMMU (citadelref07.U): its cells; none, Set, Drop, Root, Ring. -/
namespace Go.Proofs.YtonhlgfgbdiapaaGreat
set_option linter.unusedVariables false
set_option linter.unusedSimpArgs false
open Go.RowKit
set_option maxRecDepth 100000

section
variable {own own' : Nat → Nat} {c d q p2 t2 n cm : Nat} {w : World} {s s' : Us} {ms : List To4} {m : Nat → Int}
theorem UrefAt.cells (h : UrefAt own c d w q p2 t2 s ms) : w.cell? ⟨q, 0, none⟩ = some (.pointer (some ⟨p2, 0, none⟩)) ∧ w.cell? ⟨q, 1, none⟩ = some (.pointer (some ⟨t2, 0, none⟩)) ∧ w.cell? ⟨q, 11, none⟩ = some (.int .u64 (s.ring : Int)) ∧ w.cell? ⟨q, 12, none⟩ = some (.bool s.rd) ∧ w.cell? ⟨q, 13, none⟩ = some (.int .i64 (s.fi : Int)) ∧ w.cell? ⟨q, 14, none⟩ = some (.int .i64 (s.un : Int)) ∧ w.cell? ⟨q, 15, none⟩ = some (.bool s.ov) ∧ q < w.heap.size := by
  obtain ⟨v, hb, _⟩ := h
  exact ⟨hb.cell 0, hb.cell 1, hb.cell 11, hb.cell 12, hb.cell 13, hb.cell 14, hb.cell 15, hb.lt⟩
theorem UrefAt.froz (h : UrefAt own c d w q p2 t2 s ms) (j : Nat) : w.frozen? ⟨q, j, none⟩ = false := by
  obtain ⟨v, hb, _⟩ := h
  exact hb.frozen j
theorem UrefAt.root (h : UrefAt own c d w q p2 t2 s ms) (k : Nat) (hk : k < 8) : w.cell? ⟨q, 2 + k, none⟩ = some (.int .u64 (s.rt k : Int)) := by
  obtain ⟨v, hb, _⟩ := h
  rcases (show k = 0 ∨ k = 1 ∨ k = 2 ∨ k = 3 ∨ k = 4 ∨ k = 5 ∨ k = 6 ∨ k = 7 by omega) with rfl | rfl | rfl | rfl | rfl | rfl | rfl | rfl
  · exact hb.cell 2
  · exact hb.cell 3
  · exact hb.cell 4
  · exact hb.cell 5
  · exact hb.cell 6
  · exact hb.cell 7
  · exact hb.cell 8
  · exact hb.cell 9
theorem UrefAt.put (h : UrefAt own c d w q p2 t2 s ms) (hcd : c ≠ d) (j : Nat) (x : Value) (he : ∀ v, urC p2 t2 s' v = (urC p2 t2 s v).setIfInBounds j x) :
    Step (· = c) own w own (w.setCell ⟨q, j, none⟩ x) ∧ UrefAt own c d (w.setCell ⟨q, j, none⟩ x) q p2 t2 s' ms := by
  obtain ⟨v, hb, ho, hR⟩ := h
  have hS : Step (· = c) own w own (w.setCell ⟨q, j, none⟩ x) := ⟨(Upd.refl _ _).setCell (.inl ho) _, fun _ _ => rfl⟩
  exact ⟨hS, v, by rw [he v]; exact hb.set_ j x, ho, hR.step hS (fun e => hcd e.symm)⟩
theorem urC_rt (p2 t2 : Nat) (s : Us) (v : Value) (k r : Nat) (hk : k < 8) : urC p2 t2 (usRt s k r) v = (urC p2 t2 s v).setIfInBounds (2 + k) (.int .u64 (r : Int)) := by
  rcases (show k = 0 ∨ k = 1 ∨ k = 2 ∨ k = 3 ∨ k = 4 ∨ k = 5 ∨ k = 6 ∨ k = 7 by omega) with rfl | rfl | rfl | rfl | rfl | rfl | rfl | rfl <;> rfl
theorem ur_none (dev : Int) (w : World) : Calls Tryz.prog 105 #[.int .i64 dev] w fun e w' => e = .returned (.bool (!decide (0 ≤ dev ∧ dev < 8))) ∧ w = w' := by
  by_cases h0 : dev < 0
  · rw [show (!decide (0 ≤ dev ∧ dev < 8)) = true from by rw [decide_eq_false (by omega)]; rfl]
    go_enter Tryz.func105, Tryz.ntmps105
    go_wp2
    go_ret
    exact ⟨rfl, rfl⟩
  · have h0d : decide (dev < 0) = false := by simpa using h0
    by_cases h8 : 8 ≤ dev
    · rw [show (!decide (0 ≤ dev ∧ dev < 8)) = true from by rw [decide_eq_false (by omega)]; rfl]
      go_enter Tryz.func105, Tryz.ntmps105
      go_wp2
      go_ret
      exact ⟨rfl, rfl⟩
    · have h8d : decide (8 ≤ dev) = false := by simpa using h8
      rw [show (!decide (0 ≤ dev ∧ dev < 8)) = false from by rw [decide_eq_true (by omega)]; rfl]
      go_enter Tryz.func105, Tryz.ntmps105
      go_wp2
      go_ret
      exact ⟨rfl, rfl⟩
/-- what Set tells -/
def setRA (dev : Int) (x : Nat) : Int := if (0 ≤ dev ∧ dev < 8) ∧ x ≠ 0 then 0 else 1
def setSA (s : Us) (dev : Int) (x : Nat) : Us := if (0 ≤ dev ∧ dev < 8) ∧ x ≠ 0 then usRt s dev.toNat x else s
def dropRA (dev : Int) : Int := if 0 ≤ dev ∧ dev < 8 then 0 else 1
def dropSA (s : Us) (dev : Int) : Us := if 0 ≤ dev ∧ dev < 8 then usRt s dev.toNat 0 else s
theorem uref_Set (h : UrefAt own c d w q p2 t2 s ms) (hcd : c ≠ d) (dev : Int) (x : Nat) :
    Calls Tryz.prog 80 #[.pointer (some ⟨q, 0, none⟩), .int .i64 dev, .int .u64 (x : Int)] w fun e w' => e = .returned (.int .i64 (setRA dev x)) ∧ Step (· = c) own w own w' ∧ UrefAt own c d w' q p2 t2 (setSA s dev x) ms := by
  have HT := Lib.hid (ur_none dev w)
  by_cases hd : 0 ≤ dev ∧ dev < 8
  · have hde : (!decide (0 ≤ dev ∧ dev < 8)) = false := by simpa using hd
    obtain ⟨k, rfl⟩ := Int.eq_ofNat_of_zero_le hd.1
    by_cases hx : x = 0
    · subst hx
      have e1 : setRA (k : Int) 0 = 1 := if_neg (by omega)
      have e2 : setSA s (k : Int) 0 = s := if_neg (by omega)
      rw [e1, e2, show ((0 : Nat) : Int) = 0 from rfl]
      have HR := Lib.hid (And.intro (Step.refl (· = c) own w) h)
      clear h hd e1 e2
      go_enter Tryz.func80, Tryz.ntmps80
      go_wp2_with fail
      ((with_reducible refine HT.out.mono ?_); rintro e wz ⟨rfl, rfl⟩)
      rw [hde]
      clear HT
      go_wp2
      go_ret
      exact ⟨rfl, HR.out⟩
    · have e1 : setRA (k : Int) x = 0 := if_pos ⟨hd, hx⟩
      have e2 : setSA s (k : Int) x = usRt s k x := if_pos ⟨hd, hx⟩
      rw [e1, e2]
      have hk : k < 8 := by omega
      have hc := h.root k hk
      have hz := h.froz (2 + k)
      have hlt := h.cells.2.2.2.2.2.2.2
      have hx0 : ((x : Int) == 0) = false := by simp; omega
      have HR := Lib.hid (h.put hcd (2 + k) (.int .u64 (x : Int)) (fun v => urC_rt p2 t2 s v k x hk))
      clear h hd e1 e2
      go_enter Tryz.func80, Tryz.ntmps80
      go_wp2_with fail
      ((with_reducible refine HT.out.mono ?_); rintro e wz ⟨rfl, rfl⟩)
      rw [hde]
      clear HT
      go_wp2
      go_ret
      exact ⟨rfl, HR.out⟩
  · have hde : (!decide (0 ≤ dev ∧ dev < 8)) = true := by rw [decide_eq_false hd]; rfl
    have e1 : setRA dev x = 1 := if_neg (fun h => hd h.1)
    have e2 : setSA s dev x = s := if_neg (fun h => hd h.1)
    rw [e1, e2]
    have HR := Lib.hid (And.intro (Step.refl (· = c) own w) h)
    clear h hd e1 e2
    go_enter Tryz.func80, Tryz.ntmps80
    go_wp2_with fail
    ((with_reducible refine HT.out.mono ?_); rintro e wz ⟨rfl, rfl⟩)
    rw [hde]
    clear HT
    go_wp2
    go_ret
    exact ⟨rfl, HR.out⟩
theorem uref_Drop (h : UrefAt own c d w q p2 t2 s ms) (hcd : c ≠ d) (dev : Int) :
    Calls Tryz.prog 83 #[.pointer (some ⟨q, 0, none⟩), .int .i64 dev] w fun e w' => e = .returned (.int .i64 (dropRA dev)) ∧ Step (· = c) own w own w' ∧ UrefAt own c d w' q p2 t2 (dropSA s dev) ms := by
  have HT := Lib.hid (ur_none dev w)
  by_cases hd : 0 ≤ dev ∧ dev < 8
  · have hde : (!decide (0 ≤ dev ∧ dev < 8)) = false := by simpa using hd
    obtain ⟨k, rfl⟩ := Int.eq_ofNat_of_zero_le hd.1
    have e1 : dropRA (k : Int) = 0 := if_pos hd
    have e2 : dropSA s (k : Int) = usRt s k 0 := if_pos hd
    rw [e1, e2]
    have hk : k < 8 := by omega
    have hc := h.root k hk
    have hz := h.froz (2 + k)
    have hlt := h.cells.2.2.2.2.2.2.2
    have HR := Lib.hid (h.put hcd (2 + k) (.int .u64 0) (fun v => urC_rt p2 t2 s v k 0 hk))
    clear h hd e1 e2
    go_enter Tryz.func83, Tryz.ntmps83
    go_wp2_with fail
    ((with_reducible refine HT.out.mono ?_); rintro e wz ⟨rfl, rfl⟩)
    rw [hde]
    clear HT
    go_wp2
    go_ret
    exact ⟨rfl, HR.out⟩
  · have hde : (!decide (0 ≤ dev ∧ dev < 8)) = true := by rw [decide_eq_false hd]; rfl
    have e1 : dropRA dev = 1 := if_neg hd
    have e2 : dropSA s dev = s := if_neg hd
    rw [e1, e2]
    have HR := Lib.hid (And.intro (Step.refl (· = c) own w) h)
    clear h hd e1 e2
    go_enter Tryz.func83, Tryz.ntmps83
    go_wp2_with fail
    ((with_reducible refine HT.out.mono ?_); rintro e wz ⟨rfl, rfl⟩)
    rw [hde]
    clear HT
    go_wp2
    go_ret
    exact ⟨rfl, HR.out⟩
theorem uref_Root (h : UrefAt own c d w q p2 t2 s ms) (dev : Int) :
    Calls Tryz.prog 81 #[.pointer (some ⟨q, 0, none⟩), .int .i64 dev] w fun e w' => e = .returned (.int .u64 (rootP s dev : Int)) ∧ w = w' := by
  have HT := Lib.hid (ur_none dev w)
  by_cases hd : 0 ≤ dev ∧ dev < 8
  · have hde : (!decide (0 ≤ dev ∧ dev < 8)) = false := by simpa using hd
    obtain ⟨k, rfl⟩ := Int.eq_ofNat_of_zero_le hd.1
    rw [show rootP s (k : Int) = s.rt k from by unfold rootP; rw [if_pos hd]; rfl]
    have hk : k < 8 := by omega
    have hc := h.root k hk
    clear h hd
    go_enter Tryz.func81, Tryz.ntmps81
    go_wp2_with fail
    ((with_reducible refine HT.out.mono ?_); rintro e wz ⟨rfl, rfl⟩)
    rw [hde]
    clear HT
    go_wp2
    go_ret
    exact ⟨rfl, rfl⟩
  · have hde : (!decide (0 ≤ dev ∧ dev < 8)) = true := by rw [decide_eq_false hd]; rfl
    rw [show rootP s dev = 0 from by unfold rootP; rw [if_neg hd], show ((0 : Nat) : Int) = 0 from rfl]
    clear h hd
    go_enter Tryz.func81, Tryz.ntmps81
    go_wp2_with fail
    ((with_reducible refine HT.out.mono ?_); rintro e wz ⟨rfl, rfl⟩)
    rw [hde]
    clear HT
    go_wp2
    go_ret
    exact ⟨rfl, rfl⟩
/-- is a place one for a ring -/
def ringOk (n a : Nat) : Bool := a % 4096 == 0 && decide (a + 4096 ≤ n * 4096)
def ringS (n : Nat) (s : Us) (a : Nat) : Us := if ringOk n a then usRg s a else s
theorem ring_has {n a : Nat} (h : a % 4096 = 0) : ringOk n a = hasR 0 n (a : Int) 4096 := by
  unfold ringOk hasR
  rw [show (a % 4096 == 0) = true from by simpa using h, Bool.true_and]
  exact decide_eq_decide.2 ⟨fun h => ⟨by decide, by omega, by omega, by omega⟩, fun h => by omega⟩
theorem uref_Ring (h : UrefAt own c d w q p2 t2 s ms) (hM : MemAt refK own cm w p2 0 n m) (hcd : c ≠ d) (a : Nat) (ha : a < 18446744073709551616) :
    Calls Tryz.prog 94 #[.pointer (some ⟨q, 0, none⟩), .int .u64 (a : Int)] w fun e w' => e = .returned (.int .i64 (if ringOk n a then 0 else 1)) ∧ Step (· = c) own w own w' ∧ UrefAt own c d w' q p2 t2 (ringS n s a) ms := by
  obtain ⟨c0, c1, c11, c12, c13, c14, c15, hlt⟩ := h.cells
  by_cases hz : a % 4096 = 0
  · have hH := mref_Has hM (a : Int) 4096 (by omega) (by omega) (by decide) (by decide)
    rw [← ring_has hz] at hH
    have HH := Lib.hid hH
    have hz2 : (a : Int) % 4096 = 0 := by omega
    unfold ringS
    cases hr : ringOk n a with
    | false =>
      rw [hr] at HH
      have HR := Lib.hid (And.intro (Step.refl (· = c) own w) h)
      clear h hM hH hr
      go_enter Tryz.func94, Tryz.ntmps94
      go_wp2_with fail
      ((with_reducible refine HH.out.mono ?_); rintro e wz ⟨rfl, rfl⟩)
      clear HH
      go_wp2
      go_ret
      exact ⟨rfl, HR.out⟩
    | true =>
      rw [hr] at HH
      have z11 := h.froz 11
      have z12 := h.froz 12
      have z13 := h.froz 13
      have z14 := h.froz 14
      obtain ⟨g1, h1⟩ := h.put (s' := { s with ring := a }) hcd 11 (.int .u64 (a : Int)) (fun v => rfl)
      obtain ⟨g2, h2⟩ := h1.put (s' := { s with ring := a, rd := true }) hcd 12 (.bool true) (fun v => rfl)
      obtain ⟨g3, h3⟩ := h2.put (s' := { s with ring := a, rd := true, fi := 0 }) hcd 13 (.int .i64 0) (fun v => rfl)
      obtain ⟨g4, h4⟩ := h3.put (s' := usRg s a) hcd 14 (.int .i64 0) (fun v => rfl)
      have HR := Lib.hid (And.intro (((g1.trans g2).trans g3).trans g4) h4)
      clear h hM hH hr g1 g2 g3 g4 h1 h2 h3 h4
      go_enter Tryz.func94, Tryz.ntmps94
      go_wp2_with fail
      ((with_reducible refine HH.out.mono ?_); rintro e wz ⟨rfl, rfl⟩)
      clear HH
      go_wp2
      go_ret
      exact ⟨rfl, HR.out⟩
  · have hr : ringOk n a = false := by unfold ringOk; rw [show (a % 4096 == 0) = false from by simpa using hz]; rfl
    unfold ringS
    rw [hr]
    have hz2 : ((a : Int) % 4096 == 0) = false := by simp; omega
    have HR := Lib.hid (And.intro (Step.refl (· = c) own w) h)
    clear h hM hr
    go_enter Tryz.func94, Tryz.ntmps94
    go_wp2
    go_ret
    exact ⟨rfl, HR.out⟩
end
end Go.Proofs.YtonhlgfgbdiapaaGreat

/- The document's memory: Read. -/
namespace Go.Proofs.YtonhlgfgbdiapaaGreat
set_option linter.unusedVariables false
set_option linter.unusedSimpArgs false
open Go.RowKit
set_option maxRecDepth 100000
theorem mref_Read {own : Nat → Nat} {c p base n : Nat} {m : Nat → Int} {w : World} (h : MemAt refK own c w p base n m) (addr size : Int) (ha0 : 0 ≤ addr) (ha1 : addr < 18446744073709551616) (hs0 : -9223372036854775808 ≤ size) (hs1 : size ≤ 9223372036854775807) :
    Calls Tryz.prog 76 #[.pointer (some ⟨p, 0, none⟩), .int .u64 addr, .int .i64 size] w fun e w' =>
      e = .returned (.tuple #[.int .u64 (rdR base n m addr size).1, .bool (rdR base n m addr size).2]) ∧ w = w' := by
  have HW := Lib.hid (mref_right size w)
  have HH := Lib.hid (mref_Has h addr size ha0 ha1 hs0 hs1)
  by_cases h1 : okS size = true
  · by_cases h2 : hasR base n addr size = true
    · have hres : rdR base n m addr size = (num m (addr - base).toNat size.toNat, true) := by simp [rdR, h1, h2]
      rw [hres]
      obtain ⟨q1, q2, q3, q4⟩ := hasR_iff.1 h2
      obtain ⟨o, ho⟩ := Int.eq_ofNat_of_zero_le (show 0 ≤ addr - base by omega)
      obtain ⟨s, rfl⟩ := Int.eq_ofNat_of_zero_le q1
      obtain rfl : addr = ((base + o : Nat) : Int) := by omega
      have hs8 : s ≤ 8 := by have := okS_iff.1 h1; omega
      have hroom : o + s ≤ n * 4096 := by omega
      simp only [show ((base + o : Nat) : Int) - base = (o : Int) from by omega, Int.toNat_natCast]
      have hbd := h.bd
      have hsz := h.sizes
      have HR := Lib.hid h
      have HBD := Lib.hid hbd
      clear h hbd hres q1 q2 q3 q4 ho
      go_enter Tryz.func76, Tryz.ntmps76
      go_wp2_with fail
      refine HW.out.mono ?_; rintro e w' ⟨rfl, rfl⟩; rw [h1]
      go_wp2_with fail
      refine HH.out.mono ?_; rintro e w' ⟨rfl, rfl⟩; rw [h2]
      clear HW HH
      go_wp2
      go_loop [8, 9] (fun v i => ∃ (k : Nat), k ≤ s ∧ v = .int .u64 (num m (o + k) (s - k)) ∧ i = .int .i64 ((k : Int) - 1)) (fun _ i => (intOf i + 1).toNat)
      case atStart => exact ⟨s, by omega, by simp [num], rfl⟩
      case round =>
        obtain ⟨k, hk, rfl, rfl⟩ := hrel
        rcases k with _ | k
        · have h : ¬ (0 : Int) ≤ ((0 : Nat) : Int) - 1 := by omega
          go_wp2
          go_ret2
          exact ⟨by simp, rfl⟩
        · obtain ⟨hy0, hy1⟩ := HBD.out (o + k)
          have HX := Lib.hid (show num m (o + k) (s - k) = m (o + k) + 256 * num m (o + (k + 1)) (s - (k + 1)) from by
            rw [show s - k = (s - (k + 1)) + 1 from by omega]; rfl)
          have hx0 := num_nonneg HBD.out (s - (k + 1)) (o + (k + 1))
          have hx1 := num_lt7 HBD.out (o + (k + 1)) (n := s - (k + 1)) (by omega)
          generalize num m (o + (k + 1)) (s - (k + 1)) = x at *
          rw [show (((k + 1 : Nat) : Int) - 1) = (k : Int) from by omega]
          go_wp2_with fail
          refine (mref_get' HR.out (o + k) (by omega) _ (by go_num)).mono ?_; rintro e w' ⟨rfl, rfl⟩
          go_wp2
          go_round
          case rel =>
            refine ⟨k, by omega, ?_, rfl⟩
            rw [HX.out]
            congr 1
            omega
          case measure => simp [intOf]
    · have h2 : hasR base n addr size = false := by simpa using h2
      have hres : rdR base n m addr size = (0, false) := by simp [rdR, h2]
      rw [hres]
      clear h
      go_enter Tryz.func76, Tryz.ntmps76
      go_wp2_with fail
      refine HW.out.mono ?_; rintro e w' ⟨rfl, rfl⟩; rw [h1]
      go_wp2_with fail
      refine HH.out.mono ?_; rintro e w' ⟨rfl, rfl⟩; rw [h2]
      go_wp2
      go_ret2
      exact ⟨rfl, rfl⟩
  · have h1 : okS size = false := by simpa using h1
    have hres : rdR base n m addr size = (0, false) := by simp [rdR, h1]
    rw [hres]
    clear h
    go_enter Tryz.func76, Tryz.ntmps76
    go_wp2_with fail
    refine HW.out.mono ?_; rintro e w' ⟨rfl, rfl⟩; rw [h1]
    go_wp2
    go_ret2
    exact ⟨rfl, rfl⟩
end Go.Proofs.YtonhlgfgbdiapaaGreat

/- The document: its memory's Read; blocked, Next. -/
namespace Go.Proofs.YtonhlgfgbdiapaaGreat
set_option linter.unusedVariables false
set_option linter.unusedSimpArgs false
open Go.RowKit
set_option maxRecDepth 100000

section
variable {own : Nat → Nat} {c d cm q p2 t2 n : Nat} {w : World} {s : Us} {ms : List To4} {m : Nat → Int}
set_option maxHeartbeats 2000000 in
theorem uref_blocked (hU : UrefAt own c d w q p2 t2 s ms) (hM : MemAt refK own cm w p2 0 n m) (hcd : c ≠ d) (hcm : c ≠ cm ∧ d ≠ cm) (hok : UsOk n s) (k b a : Nat) (hd : k < 8) (hk : b < 8) (ha : a < 18446744073709551616) :
    Calls Tryz.prog 106 #[.pointer (some ⟨q, 0, none⟩), .int .i64 (k : Int), .int .i64 (b : Int), .int .u64 (a : Int)] w fun e w' => e = .returned (.tuple #[]) ∧
      ∃ own', Step (fun x => x = c ∨ x = cm) own w own' w' ∧ UrefAt own' c d w' q p2 t2 (recS s) ms ∧ MemAt refK own' cm w' p2 0 n (recM s m k b a) := by
  obtain ⟨c0, c1, c2, c3, c4, c5, c6, hlt⟩ := hU.cells
  have z5 := hU.froz 14
  have z6 := hU.froz 15
  have hsz := hM.sizes
  cases hr : recOk s with
  | false =>
    have hres : recM s m k b a = m := by unfold recM; rw [hr]; rfl
    have hre : recS s = { s with ov := true } := by unfold recS; rw [hr]; rfl
    rw [hres]
    obtain ⟨r2, r1⟩ := hU.put (s' := { s with ov := true }) hcd 15 (.bool true) (fun v => rfl)
    rw [← hre] at r1
    have HR := Lib.hid (And.intro (r2.mono (C' := fun x => x = c ∨ x = cm) (fun _ h => Or.inl h)) (And.intro r1 (hM.step r2 (fun e => hcm.1 e.symm))))
    unfold recOk at hr
    have hun := hok.un
    rcases hq : s.rd with _ | _
    · rw [hq] at c3
      clear hU hM r1 r2 hr hres hok hre
      go_enter Tryz.func106, Tryz.ntmps106
      go_wp2
      (try simp only [Exit.inBlock, Exit.then])
      exact bodyPost_ret (results_none rfl _ _ _) rfl ⟨rfl, own, HR.out⟩
    · rw [hq] at c3 hr
      have hge : decide ((255 : Int) ≤ (s.un : Int)) = true := by simp at hr ⊢; omega
      clear hU hM r1 r2 hr hres hok hre
      go_enter Tryz.func106, Tryz.ntmps106
      go_wp2
      (try simp only [Exit.inBlock, Exit.then])
      exact bodyPost_ret (results_none rfl _ _ _) rfl ⟨rfl, own, HR.out⟩
  | true =>
    obtain ⟨hA, hun, hrd⟩ := recA_in hok hr
    have hres : recM s m k b a = put (put (put m (recA s) 4 k) (recA s + 4) 4 b) (recA s + 8) 8 a := by unfold recM; rw [hr]; rfl
    have hre : recS s = { s with un := s.un + 1 } := by unfold recS; rw [hr]; rfl
    rw [hrd] at c3
    have hge : decide ((255 : Int) ≤ (s.un : Int)) = false := by simp; omega
    have hfi := hok.fi
    have hrg := hok.ring
    have hAe : recA s = s.ring + (s.fi + s.un) % 256 * 16 := rfl
    generalize recA s = A at *
    obtain ⟨w1e, _⟩ := wr_put n m A 4 rfl (by omega) (k : Int)
    obtain ⟨w2e, _⟩ := wr_put n (put m A 4 k) (A + 4) 4 rfl (by omega) (b : Int)
    obtain ⟨w3e, _⟩ := wr_put n (put (put m A 4 k) (A + 4) 4 b) (A + 8) 8 rfl (by omega) (a : Int)
    rw [show ((A + 4 : Nat) : Int) = (A : Int) + 4 from rfl] at w2e
    rw [show ((A + 8 : Nat) : Int) = (A : Int) + 8 from rfl] at w3e
    rw [show ((4 : Nat) : Int) = 4 from rfl] at w1e w2e
    rw [show ((8 : Nat) : Int) = 8 from rfl] at w3e
    rw [hres]
    have HRE := Lib.hid hre
    have hstd : Step (fun _ => False) own w own w.drew := (Step.refl _ _ _).drew
    have hW1 := mref_Write (hM.step hstd (fun h => h)) (A : Int) 4 (k : Int) (by omega) (by omega) (by decide) (by decide) (by omega) (by omega)
    rw [w1e] at hW1
    have HW1 := Lib.hid hW1
    have H0 := Lib.hid (And.intro (hstd.mono (C' := fun x => x = c ∨ x = cm) (fun _ h => h.elim)) (And.intro (hU.step hstd (fun h => h) (fun h => h)) (And.intro w2e (And.intro w3e hr))))
    have hAN : (A : Int) + 16 ≤ n * 4096 := by omega
    have hAE := Lib.hid hAe
    clear hU hM hok hres hr w1e w2e w3e hW1 hstd hAe hrd hre
    go_enter Tryz.func106, Tryz.ntmps106
    go_wp2_with fail
    refine wpE_region (S := fun (W' : World) => W'.cell? ⟨q, 11, none⟩ = some (.int .u64 (s.ring : Int)) ∧ W'.cell? ⟨q, 13, none⟩ = some (.int .i64 (s.fi : Int)) ∧ W'.cell? ⟨q, 14, none⟩ = some (.int .i64 (s.un : Int))) (s := 17) (by kernel_rfl) ?_
    have hS : (fun (W' : World) => W'.cell? ⟨q, 11, none⟩ = some (.int .u64 (s.ring : Int)) ∧ W'.cell? ⟨q, 13, none⟩ = some (.int .i64 (s.fi : Int)) ∧ W'.cell? ⟨q, 14, none⟩ = some (.int .i64 (s.un : Int))) _ := ⟨c2, c4, c5⟩
    refine wpE_take (i := 0) (oi := { dst := some 24, op := Go.Op.move (Go.Operand.tmp 0), type := 30, pos := "ref.go:96", after := #[], guard := none }) (v := ?_) rfl (by kernel_rfl) (fun _ _ _ h => h) (Or.inl ⟨by rfl, fun W hW => ?_⟩) hS ?_
    rotate_left
    · obtain ⟨hw1, hw2, hw3⟩ := hW; go_simp; (try go_bits); (try rw [if_pos (by omega)]); (try with_reducible rfl)
    (try simp only [Act.put, List.setIfInBounds_toArray, List.set_cons_succ, List.set_cons_zero])
    refine wpE_take (i := 1) (oi := { dst := some 25, op := Go.Op.nilCheck (Go.Operand.tmp 24), type := 0, pos := "ref.go:96", after := #[{ on := 0, ground := Go.Ground.data }], guard := none }) (v := ?_) rfl (by kernel_rfl) (fun _ _ _ h => h) (Or.inl ⟨by rfl, fun W hW => ?_⟩) hS ?_
    rotate_left
    · obtain ⟨hw1, hw2, hw3⟩ := hW; go_simp; (try go_bits); (try rw [if_pos (by omega)]); (try with_reducible rfl)
    (try simp only [Act.put, List.setIfInBounds_toArray, List.set_cons_succ, List.set_cons_zero])
    refine wpE_take (i := 2) (oi := { dst := some 26, op := Go.Op.fieldAddr 87 (Go.Operand.tmp 25) 4, type := 0, pos := "ref.go:96", after := #[{ on := 1, ground := Go.Ground.data }], guard := none }) (v := ?_) rfl (by kernel_rfl) (fun _ _ _ h => h) (Or.inl ⟨by rfl, fun W hW => ?_⟩) hS ?_
    rotate_left
    · obtain ⟨hw1, hw2, hw3⟩ := hW; go_simp; (try go_bits); (try rw [if_pos (by omega)]); (try with_reducible rfl)
    (try simp only [Act.put, List.setIfInBounds_toArray, List.set_cons_succ, List.set_cons_zero])
    refine wpE_take (i := 3) (oi := { dst := some 27, op := Go.Op.load 23 (Go.Operand.tmp 26), type := 23, pos := "ref.go:96", after := #[{ on := 2, ground := Go.Ground.data }], guard := none }) (v := ?_) rfl (by kernel_rfl) (fun _ _ _ h => h) (Or.inl ⟨by rfl, fun W hW => ?_⟩) hS ?_
    rotate_left
    · obtain ⟨hw1, hw2, hw3⟩ := hW; go_simp; (try go_bits); (try rw [if_pos (by omega)]); (try with_reducible rfl)
    (try simp only [Act.put, List.setIfInBounds_toArray, List.set_cons_succ, List.set_cons_zero])
    refine wpE_take (i := 4) (oi := { dst := some 28, op := Go.Op.move (Go.Operand.tmp 0), type := 30, pos := "ref.go:96", after := #[], guard := none }) (v := ?_) rfl (by kernel_rfl) (fun _ _ _ h => h) (Or.inl ⟨by rfl, fun W hW => ?_⟩) hS ?_
    rotate_left
    · obtain ⟨hw1, hw2, hw3⟩ := hW; go_simp; (try go_bits); (try rw [if_pos (by omega)]); (try with_reducible rfl)
    (try simp only [Act.put, List.setIfInBounds_toArray, List.set_cons_succ, List.set_cons_zero])
    refine wpE_take (i := 5) (oi := { dst := some 29, op := Go.Op.nilCheck (Go.Operand.tmp 28), type := 0, pos := "ref.go:96", after := #[{ on := 4, ground := Go.Ground.data }], guard := none }) (v := ?_) rfl (by kernel_rfl) (fun _ _ _ h => h) (Or.inl ⟨by rfl, fun W hW => ?_⟩) hS ?_
    rotate_left
    · obtain ⟨hw1, hw2, hw3⟩ := hW; go_simp; (try go_bits); (try rw [if_pos (by omega)]); (try with_reducible rfl)
    (try simp only [Act.put, List.setIfInBounds_toArray, List.set_cons_succ, List.set_cons_zero])
    refine wpE_take (i := 6) (oi := { dst := some 30, op := Go.Op.fieldAddr 87 (Go.Operand.tmp 29) 6, type := 0, pos := "ref.go:96", after := #[{ on := 5, ground := Go.Ground.data }], guard := none }) (v := ?_) rfl (by kernel_rfl) (fun _ _ _ h => h) (Or.inl ⟨by rfl, fun W hW => ?_⟩) hS ?_
    rotate_left
    · obtain ⟨hw1, hw2, hw3⟩ := hW; go_simp; (try go_bits); (try rw [if_pos (by omega)]); (try with_reducible rfl)
    (try simp only [Act.put, List.setIfInBounds_toArray, List.set_cons_succ, List.set_cons_zero])
    refine wpE_take (i := 7) (oi := { dst := some 31, op := Go.Op.load 3 (Go.Operand.tmp 30), type := 3, pos := "ref.go:96", after := #[{ on := 6, ground := Go.Ground.data }], guard := none }) (v := ?_) rfl (by kernel_rfl) (fun _ _ _ h => h) (Or.inl ⟨by rfl, fun W hW => ?_⟩) hS ?_
    rotate_left
    · obtain ⟨hw1, hw2, hw3⟩ := hW; go_simp; (try go_bits); (try rw [if_pos (by omega)]); (try with_reducible rfl)
    (try simp only [Act.put, List.setIfInBounds_toArray, List.set_cons_succ, List.set_cons_zero])
    refine wpE_take (i := 8) (oi := { dst := some 32, op := Go.Op.move (Go.Operand.tmp 0), type := 30, pos := "ref.go:96", after := #[], guard := none }) (v := ?_) rfl (by kernel_rfl) (fun _ _ _ h => h) (Or.inl ⟨by rfl, fun W hW => ?_⟩) hS ?_
    rotate_left
    · obtain ⟨hw1, hw2, hw3⟩ := hW; go_simp; (try go_bits); (try rw [if_pos (by omega)]); (try with_reducible rfl)
    (try simp only [Act.put, List.setIfInBounds_toArray, List.set_cons_succ, List.set_cons_zero])
    refine wpE_take (i := 9) (oi := { dst := some 33, op := Go.Op.nilCheck (Go.Operand.tmp 32), type := 0, pos := "ref.go:96", after := #[{ on := 8, ground := Go.Ground.data }], guard := none }) (v := ?_) rfl (by kernel_rfl) (fun _ _ _ h => h) (Or.inl ⟨by rfl, fun W hW => ?_⟩) hS ?_
    rotate_left
    · obtain ⟨hw1, hw2, hw3⟩ := hW; go_simp; (try go_bits); (try rw [if_pos (by omega)]); (try with_reducible rfl)
    (try simp only [Act.put, List.setIfInBounds_toArray, List.set_cons_succ, List.set_cons_zero])
    refine wpE_take (i := 10) (oi := { dst := some 34, op := Go.Op.fieldAddr 87 (Go.Operand.tmp 33) 7, type := 0, pos := "ref.go:96", after := #[{ on := 9, ground := Go.Ground.data }], guard := none }) (v := ?_) rfl (by kernel_rfl) (fun _ _ _ h => h) (Or.inl ⟨by rfl, fun W hW => ?_⟩) hS ?_
    rotate_left
    · obtain ⟨hw1, hw2, hw3⟩ := hW; go_simp; (try go_bits); (try rw [if_pos (by omega)]); (try with_reducible rfl)
    (try simp only [Act.put, List.setIfInBounds_toArray, List.set_cons_succ, List.set_cons_zero])
    refine wpE_take (i := 11) (oi := { dst := some 35, op := Go.Op.load 3 (Go.Operand.tmp 34), type := 3, pos := "ref.go:96", after := #[{ on := 10, ground := Go.Ground.data }], guard := none }) (v := ?_) rfl (by kernel_rfl) (fun _ _ _ h => h) (Or.inl ⟨by rfl, fun W hW => ?_⟩) hS ?_
    rotate_left
    · obtain ⟨hw1, hw2, hw3⟩ := hW; go_simp; (try go_bits); (try rw [if_pos (by omega)]); (try with_reducible rfl)
    (try simp only [Act.put, List.setIfInBounds_toArray, List.set_cons_succ, List.set_cons_zero])
    refine wpE_take (i := 12) (oi := { dst := some 36, op := Go.Op.binOp Go.BinOp.add 3 (Go.Operand.tmp 31) (Go.Operand.tmp 35) 3, type := 3, pos := "ref.go:96", after := #[{ on := 7, ground := Go.Ground.data }, { on := 11, ground := Go.Ground.data }], guard := none }) (v := .int .i64 ((s.fi + s.un : Nat) : Int)) rfl (by kernel_rfl) (fun _ _ _ h => h) (Or.inl ⟨by rfl, fun W hW => ?_⟩) hS ?_
    · obtain ⟨hw1, hw2, hw3⟩ := hW; go_simp; (try go_bits); (try trivial)
    (try simp only [Act.put, List.setIfInBounds_toArray, List.set_cons_succ, List.set_cons_zero])
    refine wpE_take (i := 13) (oi := { dst := some 37, op := Go.Op.binOp Go.BinOp.rem 3 (Go.Operand.tmp 36) (Go.Operand.const (Go.Value.int Go.IntKind.i64 256)) 3, type := 3, pos := "ref.go:96", after := #[{ on := 12, ground := Go.Ground.data }], guard := none }) (v := .int .i64 (((s.fi + s.un) % 256 : Nat) : Int)) rfl (by kernel_rfl) (fun _ _ _ h => h) (Or.inl ⟨by rfl, fun W hW => ?_⟩) hS ?_
    · obtain ⟨hw1, hw2, hw3⟩ := hW; go_simp; (try go_bits); (try trivial)
    (try simp only [Act.put, List.setIfInBounds_toArray, List.set_cons_succ, List.set_cons_zero])
    refine wpE_take (i := 14) (oi := { dst := some 38, op := Go.Op.binOp Go.BinOp.mul 3 (Go.Operand.const (Go.Value.int Go.IntKind.i64 16)) (Go.Operand.tmp 37) 3, type := 3, pos := "ref.go:96", after := #[{ on := 13, ground := Go.Ground.data }], guard := none }) (v := .int .i64 (((s.fi + s.un) % 256 * 16 : Nat) : Int)) rfl (by kernel_rfl) (fun _ _ _ h => h) (Or.inl ⟨by rfl, fun W hW => ?_⟩) hS ?_
    · obtain ⟨hw1, hw2, hw3⟩ := hW; go_simp; (try go_bits); (try trivial); (try omega)
    (try simp only [Act.put, List.setIfInBounds_toArray, List.set_cons_succ, List.set_cons_zero])
    refine wpE_take (i := 15) (oi := { dst := some 39, op := Go.Op.convert 3 23 (Go.Operand.tmp 38), type := 23, pos := "ref.go:96", after := #[{ on := 14, ground := Go.Ground.data }], guard := none }) (v := .int .u64 (((s.fi + s.un) % 256 * 16 : Nat) : Int)) rfl (by kernel_rfl) (fun _ _ _ h => h) (Or.inl ⟨by rfl, fun W hW => ?_⟩) hS ?_
    · obtain ⟨hw1, hw2, hw3⟩ := hW; go_simp; (try go_bits); (try trivial)
    (try simp only [Act.put, List.setIfInBounds_toArray, List.set_cons_succ, List.set_cons_zero])
    refine wpE_take (i := 16) (oi := { dst := some 40, op := Go.Op.binOp Go.BinOp.add 23 (Go.Operand.tmp 27) (Go.Operand.tmp 39) 23, type := 23, pos := "ref.go:96", after := #[{ on := 3, ground := Go.Ground.data }, { on := 15, ground := Go.Ground.data }], guard := none }) (v := .int .u64 (A : Int)) rfl (by kernel_rfl) (fun _ _ _ h => h) (Or.inl ⟨by rfl, fun W hW => ?_⟩) hS ?_
    · obtain ⟨hw1, hw2, hw3⟩ := hW; have hq := hAE.out; rw [hq]; go_simp; (try go_bits); (try rw [IntWalk.u64_in _ (by omega)]); (try trivial)
    (try simp only [Act.put, List.setIfInBounds_toArray, List.set_cons_succ, List.set_cons_zero])
    refine wpE_last (oi := { dst := some 8, op := Go.Op.assign (Go.Operand.tmp 40), type := 23, pos := "ref.go:96", after := #[{ on := 16, ground := Go.Ground.data }, { on := 0, ground := Go.Ground.phase }, { on := 1, ground := Go.Ground.phase }, { on := 2, ground := Go.Ground.phase }, { on := 3, ground := Go.Ground.phase }, { on := 4, ground := Go.Ground.phase }, { on := 5, ground := Go.Ground.phase }, { on := 6, ground := Go.Ground.phase }, { on := 7, ground := Go.Ground.phase }, { on := 8, ground := Go.Ground.phase }, { on := 9, ground := Go.Ground.phase }, { on := 10, ground := Go.Ground.phase }, { on := 11, ground := Go.Ground.phase }, { on := 12, ground := Go.Ground.phase }, { on := 13, ground := Go.Ground.phase }, { on := 14, ground := Go.Ground.phase }, { on := 15, ground := Go.Ground.phase }, { on := 16, ground := Go.Ground.phase }], guard := none }) rfl (by kernel_rfl) (by kernel_rfl) (by rfl) (fun K hK => ?_)
    go_simp; (try go_bits); refine hK _ _ ?_; clear hK K
    clear hS
    have d0 : w.drew.cell? ⟨q, 0, none⟩ = some (.pointer (some ⟨p2, 0, none⟩)) := c0
    go_wp2_with fail
    ((with_reducible refine HW1.out.mono ?_); rintro e w1 ⟨rfl, own1, hS1, hM1⟩)
    have hU1 := H0.out.2.1.step hS1 hcm.1 hcm.2
    have hW2 := mref_Write hM1 ((A : Int) + 4) 4 (b : Int) (by omega) (by omega) (by decide) (by decide) (by omega) (by omega)
    rw [H0.out.2.2.1] at hW2
    have HW2 := Lib.hid hW2
    have H1 := Lib.hid (And.intro (H0.out.1.trans (hS1.mono (C' := fun x => x = c ∨ x = cm) (fun _ h => Or.inr h))) hU1)
    have e0 := hU1.cells.1
    clear hS1 hM1 hU1 hW2 HW1 d0
    go_wp2_with fail
    ((with_reducible refine HW2.out.mono ?_); rintro e w2 ⟨rfl, own2, hS2, hM2⟩)
    have hU2 := H1.out.2.step hS2 hcm.1 hcm.2
    have hW3 := mref_Write hM2 ((A : Int) + 8) 8 (a : Int) (by omega) (by omega) (by decide) (by decide) (by omega) (by omega)
    rw [H0.out.2.2.2.1] at hW3
    have HW3 := Lib.hid hW3
    have H2 := Lib.hid (And.intro (H1.out.1.trans (hS2.mono (C' := fun x => x = c ∨ x = cm) (fun _ h => Or.inr h))) hU2)
    have f0 := hU2.cells.1
    clear hS2 hM2 hU2 hW3 HW2 e0
    go_wp2_with fail
    ((with_reducible refine HW3.out.mono ?_); rintro e w3 ⟨rfl, own3, hS3, hM3⟩)
    have hU3 := H2.out.2.step hS3 hcm.1 hcm.2
    obtain ⟨_, _, _, _, _, g5, _, gl⟩ := hU3.cells
    have gz := hU3.froz 14
    obtain ⟨r2, r1⟩ := hU3.put (s' := { s with un := s.un + 1 }) hcd 14 (.int .i64 ((s.un : Int) + 1)) (fun v => rfl)
    rw [← HRE.out] at r1
    have H3 := Lib.hid (And.intro ((H2.out.1.trans (hS3.mono (C' := fun x => x = c ∨ x = cm) (fun _ h => Or.inr h))).trans (r2.mono (fun _ h => Or.inl h))) (And.intro r1 (hM3.step r2 (fun e => hcm.1 e.symm))))
    clear hS3 hM3 hU3 HW3 f0 r1 r2 H0 H1 H2
    go_wp2
    go_end0
    exact ⟨rfl, own3, H3.out⟩
end
end Go.Proofs.YtonhlgfgbdiapaaGreat

/- The document's IOMMU: Remap. -/
namespace Go.Proofs.YtonhlgfgbdiapaaGreat
set_option linter.unusedVariables false
set_option linter.unusedSimpArgs false
open Go.RowKit
set_option maxRecDepth 100000

theorem to_parts : ∃ (i : TypeInfo) (z : Value), Tryz.prog.info? 191 = some i ∧ i.zero = some z ∧ i.size = 4 ∧ i.bytes = 32 ∧ z.cells.size = 4 := by
  have h : (Tryz.prog.info? 191).map (fun i => (i.zero, i.size, i.bytes)) = some (some (.agg #[.int .i64 0, .int .u64 0, .int .i64 0, .int .i64 0]), 4, 32) := by kernel_rfl
  obtain ⟨i, hi, hz, hs, hb⟩ := info_parts h
  exact ⟨i, _, hi, hz, hs, hb, rfl⟩
theorem tosC_snoc (l : List To4) (t : To4) : tosC (l ++ [t]) = tosC l ++ toC t := by simp [tosC]
theorem UrefAt.msis {own : Nat → Nat} {c d q p2 t2 : Nat} {w : World} {s : Us} {ms : List To4} (h : UrefAt own c d w q p2 t2 s ms) : ∃ A cap, w.cell? ⟨q, 10, none⟩ = some (.slice A ms.length cap) ∧ Rw 191 4 own d w (.slice A ms.length cap) ms.length (tosC ms) := by
  obtain ⟨v, hb, ho, hR⟩ := h
  obtain ⟨A, cap, rfl, _⟩ := hR.form
  exact ⟨A, cap, hb.cell 10, hR⟩
/-- a list made longer, laid -/
theorem UrefAt.lay {own own3 : Nat → Nat} {c d q p2 t2 : Nat} {w w3 : World} {s : Us} {ms ms3 : List To4} {v3 : Value} (h : UrefAt own c d w q p2 t2 s ms) (hcd : c ≠ d) (hS : Step (· = d) own w own3 w3) (hR : Rw 191 4 own3 d w3 v3 ms3.length (tosC ms3)) :
    Step (fun x => x = c ∨ x = d) own w own3 (w3.setCell ⟨q, 10, none⟩ v3) ∧ UrefAt own3 c d (w3.setCell ⟨q, 10, none⟩ v3) q p2 t2 s ms3 := by
  obtain ⟨v, hb, ho, _⟩ := h
  obtain ⟨g1, g2⟩ := hS.blk hb ho (fun e => hcd e)
  have hS2 : Step (· = c) own3 w3 own3 (w3.setCell ⟨q, 10, none⟩ v3) := ⟨(Upd.refl _ _).setCell (.inl g2) _, fun _ _ => rfl⟩
  exact ⟨(hS.mono (fun _ h => Or.inr h)).trans (hS2.mono (fun _ h => Or.inl h)), v3, g1.set_ 10 v3, g2, hR.step hS2 (fun e => hcd e.symm)⟩
/-- what Remap tells -/
def remOk (dev : Int) (k : Nat) : Bool := decide (0 ≤ dev ∧ dev < 8) && decide (k < 32)
section
variable {own : Nat → Nat} {c d q p2 t2 : Nat} {w : World} {s : Us} {ms : List To4}
set_option maxHeartbeats 2000000 in
theorem uref_Remap (h : UrefAt own c d w q p2 t2 s ms) (hcd : c ≠ d) (hms : ms.length < 4398046511104) (dev : Int) (k : Nat) (hk : k < 18446744073709551616) (g i : Int) :
    Calls Tryz.prog 85 #[.pointer (some ⟨q, 0, none⟩), .int .i64 dev, .int .u64 (k : Int), .agg #[.int .i64 g, .int .i64 i]] w fun e w' => e = .returned (.int .i64 (if remOk dev k then 0 else 1)) ∧
      ∃ own', Step (fun x => x = c ∨ x = d) own w own' w' ∧ UrefAt own' c d w' q p2 t2 s (if remOk dev k then ms ++ [⟨dev, k, g, i⟩] else ms) := by
  have HT := Lib.hid (fun w => ur_none dev w)
  have hstA : Step (fun _ => False) own w (ext own w (c + d + 1)) (w.alloc (.cells #[.int .i64 g, .int .i64 i] 47)) := ⟨(Upd.refl _ _).alloc _, fun b hb => ext_old _ _ _ hb⟩
  have hUA := h.step hstA (fun h => h) (fun h => h)
  by_cases hr : remOk dev k = true
  · rw [hr]
    obtain ⟨hd, hk32⟩ : (0 ≤ dev ∧ dev < 8) ∧ k < 32 := by unfold remOk at hr; simpa using hr
    have hde : (!decide (0 ≤ dev ∧ dev < 8)) = false := by simpa using hd
    have hkd : decide (31 < (k : Int)) = false := by simp; omega
    obtain ⟨A, cap, c10, hR⟩ := hUA.msis
    have z10 := hUA.froz 10
    have hlt := hUA.cells.2.2.2.2.2.2.2
    have hB := Blk.new w 47 #[.int .i64 g, .int .i64 i]
    have hoB : ext own w (c + d + 1) w.heap.size = c + d + 1 := ext_new _ _ _ (Nat.le_refl _)
    have H0 := Lib.hid (And.intro hstA (And.intro hUA (And.intro hR (And.intro hB hoB))))
    have e0 := hB.cell 0
    have e1 := hB.cell 1
    simp only [List.getElem?_toArray, List.getElem?_cons_zero, List.getElem?_cons_succ] at e0 e1
    have hlx := hB.lt
    clear h hstA hUA hR hB hoB hr
    go_enter Tryz.func85, Tryz.ntmps85
    go_wp2_with fail
    ((with_reducible refine (HT.out _).mono ?_); rintro e wz ⟨rfl, rfl⟩)
    rw [hde]
    clear HT
    generalize hxb : w.heap.size = xb at *
    generalize w.alloc (.cells #[.int .i64 g, .int .i64 i] 47) = w1 at *
    generalize ext own w (c + d + 1) = own1 at *
    obtain ⟨it, z, hi, hz, hs, hby, hzs⟩ := to_parts
    have HI := Lib.hid (And.intro hi (And.intro hz (And.intro hs (And.intro hby hzs))))
    have hsta := (step_allocS own1 w1 (.cells (toC ⟨dev, k, g, i⟩).toArray 191)).drew
    have HR2 := Lib.hid (H0.out.2.2.1.step hsta (fun h => h))
    have HU2 := Lib.hid (H0.out.2.1.step hsta (fun h => h) (fun h => h))
    have HX := Lib.hid (hsta.blk H0.out.2.2.2.1 H0.out.2.2.2.2 (fun h => h))
    have hs0 : (w1.alloc (.cells (toC ⟨dev, k, g, i⟩).toArray 191)).drew.cell? ⟨q, 10, none⟩ = some (.slice A ms.length cap) := (hsta.upd.cell (p := ⟨q, 10, none⟩) hlt (fun h => h)).trans c10
    have hs1 : (w1.alloc (.cells (toC ⟨dev, k, g, i⟩).toArray 191)).drew.cell? ⟨xb, 0, none⟩ = some (.int .i64 g) := (hsta.upd.cell (p := ⟨xb, 0, none⟩) hlx (fun h => h)).trans e0
    have hs2 : (w1.alloc (.cells (toC ⟨dev, k, g, i⟩).toArray 191)).drew.cell? ⟨xb, 1, none⟩ = some (.int .i64 i) := (hsta.upd.cell (p := ⟨xb, 1, none⟩) hlx (fun h => h)).trans e1
    have HSA := Lib.hid (And.intro hs0 (And.intro hs1 hs2))
    have HST := Lib.hid hsta
    clear hsta hs0 hs1 hs2 hi hz hs hby hzs
    go_wp2_with fail
    refine wpE_region (S := fun (W' : World) => W'.cell? ⟨q, 10, none⟩ = some (.slice A ms.length cap) ∧ W'.cell? ⟨xb, 0, none⟩ = some (.int .i64 g) ∧ W'.cell? ⟨xb, 1, none⟩ = some (.int .i64 i)) (s := 13) (by kernel_rfl) ?_
    have hS : (fun (W' : World) => W'.cell? ⟨q, 10, none⟩ = some (.slice A ms.length cap) ∧ W'.cell? ⟨xb, 0, none⟩ = some (.int .i64 g) ∧ W'.cell? ⟨xb, 1, none⟩ = some (.int .i64 i)) _ := ⟨c10, e0, e1⟩
    refine wpE_take (i := 0) (oi := { dst := some 15, op := Go.Op.move (Go.Operand.tmp 0), type := 30, pos := "ref.go:74", after := #[], guard := none }) (v := ?_) rfl (by kernel_rfl) (fun _ _ _ h => h) (Or.inl ⟨by rfl, fun W hW => ?_⟩) hS ?_
    rotate_left
    · obtain ⟨hw1, hw2, hw3⟩ := hW; go_simp; (try go_bits); (try rw [if_pos (by omega)]); (try with_reducible rfl)
    (try simp only [Act.put, List.setIfInBounds_toArray, List.set_cons_succ, List.set_cons_zero])
    refine wpE_take (i := 1) (oi := { dst := some 16, op := Go.Op.move (Go.Operand.tmp 0), type := 30, pos := "ref.go:74", after := #[], guard := none }) (v := ?_) rfl (by kernel_rfl) (fun _ _ _ h => h) (Or.inl ⟨by rfl, fun W hW => ?_⟩) hS ?_
    rotate_left
    · obtain ⟨hw1, hw2, hw3⟩ := hW; go_simp; (try go_bits); (try rw [if_pos (by omega)]); (try with_reducible rfl)
    (try simp only [Act.put, List.setIfInBounds_toArray, List.set_cons_succ, List.set_cons_zero])
    refine wpE_take (i := 2) (oi := { dst := some 17, op := Go.Op.nilCheck (Go.Operand.tmp 16), type := 0, pos := "ref.go:74", after := #[{ on := 1, ground := Go.Ground.data }], guard := none }) (v := ?_) rfl (by kernel_rfl) (fun _ _ _ h => h) (Or.inl ⟨by rfl, fun W hW => ?_⟩) hS ?_
    rotate_left
    · obtain ⟨hw1, hw2, hw3⟩ := hW; go_simp; (try go_bits); (try rw [if_pos (by omega)]); (try with_reducible rfl)
    (try simp only [Act.put, List.setIfInBounds_toArray, List.set_cons_succ, List.set_cons_zero])
    refine wpE_take (i := 3) (oi := { dst := some 18, op := Go.Op.fieldAddr 87 (Go.Operand.tmp 17) 3, type := 0, pos := "ref.go:74", after := #[{ on := 2, ground := Go.Ground.data }], guard := none }) (v := ?_) rfl (by kernel_rfl) (fun _ _ _ h => h) (Or.inl ⟨by rfl, fun W hW => ?_⟩) hS ?_
    rotate_left
    · obtain ⟨hw1, hw2, hw3⟩ := hW; go_simp; (try go_bits); (try rw [if_pos (by omega)]); (try with_reducible rfl)
    (try simp only [Act.put, List.setIfInBounds_toArray, List.set_cons_succ, List.set_cons_zero])
    refine wpE_take (i := 4) (oi := { dst := some 19, op := Go.Op.load 85 (Go.Operand.tmp 18), type := 85, pos := "ref.go:74", after := #[{ on := 3, ground := Go.Ground.data }], guard := none }) (v := ?_) rfl (by kernel_rfl) (fun _ _ _ h => h) (Or.inl ⟨by rfl, fun W hW => ?_⟩) hS ?_
    rotate_left
    · obtain ⟨hw1, hw2, hw3⟩ := hW; go_simp; (try go_bits); (try rw [if_pos (by omega)]); (try with_reducible rfl)
    (try simp only [Act.put, List.setIfInBounds_toArray, List.set_cons_succ, List.set_cons_zero])
    refine wpE_take (i := 5) (oi := { dst := some 20, op := Go.Op.move (Go.Operand.tmp 1), type := 3, pos := "ref.go:74", after := #[], guard := none }) (v := ?_) rfl (by kernel_rfl) (fun _ _ _ h => h) (Or.inl ⟨by rfl, fun W hW => ?_⟩) hS ?_
    rotate_left
    · obtain ⟨hw1, hw2, hw3⟩ := hW; go_simp; (try go_bits); (try rw [if_pos (by omega)]); (try with_reducible rfl)
    (try simp only [Act.put, List.setIfInBounds_toArray, List.set_cons_succ, List.set_cons_zero])
    refine wpE_take (i := 6) (oi := { dst := some 21, op := Go.Op.move (Go.Operand.tmp 2), type := 23, pos := "ref.go:74", after := #[], guard := none }) (v := ?_) rfl (by kernel_rfl) (fun _ _ _ h => h) (Or.inl ⟨by rfl, fun W hW => ?_⟩) hS ?_
    rotate_left
    · obtain ⟨hw1, hw2, hw3⟩ := hW; go_simp; (try go_bits); (try rw [if_pos (by omega)]); (try with_reducible rfl)
    (try simp only [Act.put, List.setIfInBounds_toArray, List.set_cons_succ, List.set_cons_zero])
    refine wpE_take (i := 7) (oi := { dst := some 22, op := Go.Op.load 47 (Go.Operand.tmp 7), type := 47, pos := "ref.go:74", after := #[], guard := none }) (v := ?_) rfl (by kernel_rfl) (fun _ _ _ h => h) (Or.inl ⟨by rfl, fun W hW => ?_⟩) hS ?_
    rotate_left
    · obtain ⟨hw1, hw2, hw3⟩ := hW; go_simp; (try go_bits); (try rw [if_pos (by omega)]); (try with_reducible rfl)
    (try simp only [Act.put, List.setIfInBounds_toArray, List.set_cons_succ, List.set_cons_zero])
    refine wpE_take (i := 8) (oi := { dst := some 23, op := Go.Op.build 191 #[(0, Go.Operand.tmp 20), (1, Go.Operand.tmp 21), (2, Go.Operand.tmp 22)], type := 191, pos := "ref.go:74", after := #[{ on := 5, ground := Go.Ground.data }, { on := 6, ground := Go.Ground.data }, { on := 7, ground := Go.Ground.data }], guard := none }) (v := ?_) rfl (by kernel_rfl) (fun _ _ _ h => h) (Or.inl ⟨by rfl, fun W hW => ?_⟩) hS ?_
    rotate_left
    · obtain ⟨hw1, hw2, hw3⟩ := hW; go_simp; (try go_bits); (try rw [if_pos (by omega)]); (try with_reducible rfl)
    (try simp only [Act.put, List.setIfInBounds_toArray, List.set_cons_succ, List.set_cons_zero])
    refine wpE_only (i := 9) (oi := { dst := some 24, op := Go.Op.buildSlice 85 1 #[(0, Go.Operand.tmp 23)], type := 85, pos := "ref.go:74", after := #[{ on := 8, ground := Go.Ground.data }], guard := none }) rfl (by kernel_rfl) (by rfl) (fun K hK => ?_)
    go_simp
    have hS := HSA.out
    refine hK _ _ hS ?_; clear hK K
    (try simp only [Act.put, List.setIfInBounds_toArray, List.set_cons_succ, List.set_cons_zero])
    refine wpE_only (i := 10) (oi := { dst := some 25, op := Go.Op.call { callee := Go.Callee.builtin Go.Builtin.append, args := #[Go.Operand.tmp 19, Go.Operand.tmp 24], argTypes := #[85, 85] }, type := 85, pos := "ref.go:74", after := #[{ on := 4, ground := Go.Ground.data }, { on := 9, ground := Go.Ground.data }], guard := none }) rfl (by kernel_rfl) (by rfl) (fun K hK => ?_)
    refine wp_append_rw (.tmp 19) (.tmp 24) _ rfl 191 it z 4 32 Tryz.underlying85 HI.out.1 HI.out.2.1 HI.out.2.2.1 HI.out.2.2.2.1 HI.out.2.2.2.2 (by omega) (own := own1) (d := d) (.slice A ms.length cap) _ _ rfl HR2.out (w1.heap.size + 1) (some ⟨w1.heap.size, 0, none⟩) 1 1 (toC ⟨dev, k, g, i⟩) rfl ⟨rfl, fun _ => ⟨_, rfl, Nat.lt_succ_self _, cells_new4 w1 _ _ _ _ _⟩⟩ (by simp [Value.oneCell', toC]) (by unfold maxLen; omega) (by omega) ?_
    intro v3 w3 hst3 hrow3
    have hrow3' : Rw 191 4 (ext own1 (w1.alloc (.cells (toC ⟨dev, k, g, i⟩).toArray 191)).drew d) d w3 v3 (ms ++ [(⟨dev, k, g, i⟩ : To4)]).length (tosC (ms ++ [(⟨dev, k, g, i⟩ : To4)])) := by rw [tosC_snoc, List.length_append]; exact hrow3
    have H3 := Lib.hid (HU2.out.lay hcd hst3 hrow3')
    obtain ⟨vq, hbq, hoq, _⟩ := HU2.out
    obtain ⟨hbq3, _⟩ := hst3.blk hbq hoq (fun e => hcd e)
    have hcq := (hst3.upd.cell (p := ⟨q, 10, none⟩) hbq.lt (by show ¬ own1 q = d; rw [hoq]; exact hcd)).trans HSA.out.1
    have hzq := hbq3.frozen 10
    have hlq := hbq3.lt
    obtain ⟨A3, cap3, hv3, _⟩ := hrow3.form
    subst hv3
    have hX3 := (hst3.blk HX.out.1 HX.out.2 (by omega)).1
    have f0 := hX3.cell 0
    have f1 := hX3.cell 1
    simp only [List.getElem?_toArray, List.getElem?_cons_zero, List.getElem?_cons_succ] at f0 f1
    have hS := And.intro hcq (And.intro f0 f1)
    clear hst3 hrow3 hrow3' hbq hbq3 hoq hX3 f0 f1
    refine hK _ _ hS ?_; clear hK K
    (try simp only [Act.put, List.setIfInBounds_toArray, List.set_cons_succ, List.set_cons_zero])
    refine wpE_take (i := 11) (oi := { dst := some 26, op := Go.Op.nilCheck (Go.Operand.tmp 15), type := 0, pos := "ref.go:74", after := #[{ on := 0, ground := Go.Ground.data }, { on := 0, ground := Go.Ground.phase }, { on := 1, ground := Go.Ground.phase }, { on := 2, ground := Go.Ground.phase }, { on := 3, ground := Go.Ground.phase }, { on := 4, ground := Go.Ground.phase }, { on := 5, ground := Go.Ground.phase }, { on := 6, ground := Go.Ground.phase }, { on := 7, ground := Go.Ground.phase }, { on := 8, ground := Go.Ground.phase }, { on := 9, ground := Go.Ground.phase }, { on := 10, ground := Go.Ground.phase }], guard := none }) (v := ?_) rfl (by kernel_rfl) (fun _ _ _ h => h) (Or.inl ⟨by rfl, fun W hW => ?_⟩) hS ?_
    rotate_left
    · obtain ⟨hw1, hw2, hw3⟩ := hW; go_simp; (try go_bits); (try rw [if_pos (by omega)]); (try with_reducible rfl)
    (try simp only [Act.put, List.setIfInBounds_toArray, List.set_cons_succ, List.set_cons_zero])
    refine wpE_take (i := 12) (oi := { dst := some 27, op := Go.Op.fieldAddr 87 (Go.Operand.tmp 26) 3, type := 0, pos := "ref.go:74", after := #[{ on := 11, ground := Go.Ground.data }, { on := 0, ground := Go.Ground.phase }, { on := 1, ground := Go.Ground.phase }, { on := 2, ground := Go.Ground.phase }, { on := 3, ground := Go.Ground.phase }, { on := 4, ground := Go.Ground.phase }, { on := 5, ground := Go.Ground.phase }, { on := 6, ground := Go.Ground.phase }, { on := 7, ground := Go.Ground.phase }, { on := 8, ground := Go.Ground.phase }, { on := 9, ground := Go.Ground.phase }, { on := 10, ground := Go.Ground.phase }], guard := none }) (v := ?_) rfl (by kernel_rfl) (fun _ _ _ h => h) (Or.inl ⟨by rfl, fun W hW => ?_⟩) hS ?_
    rotate_left
    · obtain ⟨hw1, hw2, hw3⟩ := hW; go_simp; (try go_bits); (try rw [if_pos (by omega)]); (try with_reducible rfl)
    (try simp only [Act.put, List.setIfInBounds_toArray, List.set_cons_succ, List.set_cons_zero])
    refine wpE_last (oi := { dst := none, op := Go.Op.store 85 (Go.Operand.tmp 27) (Go.Operand.tmp 25), type := 0, pos := "ref.go:74", after := #[{ on := 12, ground := Go.Ground.data }, { on := 10, ground := Go.Ground.data }, { on := 10, ground := Go.Ground.chain }, { on := 0, ground := Go.Ground.phase }, { on := 1, ground := Go.Ground.phase }, { on := 2, ground := Go.Ground.phase }, { on := 3, ground := Go.Ground.phase }, { on := 4, ground := Go.Ground.phase }, { on := 5, ground := Go.Ground.phase }, { on := 6, ground := Go.Ground.phase }, { on := 7, ground := Go.Ground.phase }, { on := 8, ground := Go.Ground.phase }, { on := 9, ground := Go.Ground.phase }, { on := 10, ground := Go.Ground.phase }], guard := none }) rfl (by kernel_rfl) (by kernel_rfl) (by rfl) (fun K hK => ?_)
    go_simp; refine hK _ _ ?_; clear hK K
    clear hS
    go_wp2
    go_ret
    exact ⟨rfl, _, ((H0.out.1.trans HST.out).mono (C' := fun x => x = c ∨ x = d) (fun _ h => h.elim)).trans H3.out.1, H3.out.2⟩
  · have hr' : remOk dev k = false := by simpa using hr
    rw [hr']
    have HR := Lib.hid (And.intro (hstA.mono (C' := fun x => x = c ∨ x = d) (fun _ h => h.elim)) hUA)
    clear h hstA hUA hr
    by_cases hd : 0 ≤ dev ∧ dev < 8
    · have hde : (!decide (0 ≤ dev ∧ dev < 8)) = false := by simpa using hd
      have hkd : decide (31 < (k : Int)) = true := by unfold remOk at hr'; simp at hr' ⊢; omega
      clear hr' hd
      go_enter Tryz.func85, Tryz.ntmps85
      go_wp2_with fail
      ((with_reducible refine (HT.out _).mono ?_); rintro e wz ⟨rfl, rfl⟩)
      rw [hde]
      clear HT
      go_wp2
      go_ret
      exact ⟨rfl, _, HR.out⟩
    · have hde : (!decide (0 ≤ dev ∧ dev < 8)) = true := by rw [decide_eq_false hd]; rfl
      clear hr' hd
      go_enter Tryz.func85, Tryz.ntmps85
      go_wp2_with fail
      ((with_reducible refine (HT.out _).mono ?_); rintro e wz ⟨rfl, rfl⟩)
      rw [hde]
      clear HT
      go_wp2
      go_ret
      exact ⟨rfl, _, HR.out⟩
end
end Go.Proofs.YtonhlgfgbdiapaaGreat

/- The document's IOMMU: Message. -/
namespace Go.Proofs.YtonhlgfgbdiapaaGreat
set_option linter.unusedVariables false
set_option linter.unusedSimpArgs false
open Go.RowKit
set_option maxRecDepth 100000

/-- where a message of an index goes, last said -/
def msStep (dev data : Int) (acc : Int × Int) (t : To4) : Int × Int := if t.d = dev ∧ t.i = data then (t.g, t.q) else acc
def msL (ms : List To4) (dev data : Int) : Int × Int := ms.foldl (msStep dev data) (0, 0)
theorem msL_snoc (ms : List To4) (t : To4) (dev data : Int) : msL (ms ++ [t]) dev data = if t.d = dev ∧ t.i = data then (t.g, t.q) else msL ms dev data := by
  unfold msL; rw [List.foldl_append]; rfl
theorem msL_take {ms : List To4} {k : Nat} {t : To4} (h : ms[k]? = some t) (dev data : Int) : msL (ms.take (k + 1)) dev data = if t.d = dev ∧ t.i = data then (t.g, t.q) else msL (ms.take k) dev data := by
  rw [List.take_add_one, h]
  exact msL_snoc _ _ _ _
theorem tosC_at : ∀ (l : List To4) (k : Nat) (t : To4), l[k]? = some t → (tosC l)[k * 4]? = some (.int .i64 t.d) ∧ (tosC l)[k * 4 + 1]? = some (.int .u64 t.i) ∧ (tosC l)[k * 4 + 2]? = some (.int .i64 t.g) ∧ (tosC l)[k * 4 + 3]? = some (.int .i64 t.q) := by
  intro l
  induction l with
  | nil => intro k t h; cases h
  | cons x l ih =>
    intro k t h
    cases k with
    | zero =>
      simp at h; subst h
      exact ⟨rfl, rfl, rfl, rfl⟩
    | succ k =>
      have hk := ih k t (by simpa using h)
      have e : ∀ j, (tosC (x :: l))[(k + 1) * 4 + j]? = (tosC l)[k * 4 + j]? := by
        intro j
        show (toC x ++ tosC l)[(k + 1) * 4 + j]? = _
        rw [List.getElem?_append_right (by simp [toC]; omega)]
        congr 1
        simp [toC]; omega
      exact ⟨(e 0).trans hk.1, (e 1).trans hk.2.1, (e 2).trans hk.2.2.1, (e 3).trans hk.2.2.2⟩
/-- is a message one that goes somewhere -/
def msgOk (ms : List To4) (dev : Int) (a : Nat) (data : Int) : Bool := decide (0 ≤ dev ∧ dev < 8) && (a == 4276092928 && (msL ms dev data).1 != 0)
def msgV (ms : List To4) (dev : Int) (a : Nat) (data : Int) : Int × Int := if msgOk ms dev a data then msL ms dev data else (0, 0)
def msgS (s : Us) (ms : List To4) (dev : Int) (a : Nat) (data : Int) : Us := if msgOk ms dev a data then s else accSt s dev 5
def msgM (s : Us) (m : Nat → Int) (ms : List To4) (dev : Int) (a : Nat) (data : Int) : Nat → Int := if msgOk ms dev a data then m else accMt s m dev 5 a
section
variable {own : Nat → Nat} {c d cm q p2 t2 n : Nat} {w : World} {s : Us} {ms : List To4} {m : Nat → Int}
theorem upd_set2 {w wr : World} {r : Nat} (h : Upd (fun _ => False) w wr) (hr : w.heap.size ≤ r) (u v : Value) : Upd (fun _ => False) w ((wr.setCell ⟨r, 0, none⟩ u).setCell ⟨r, 1, none⟩ v) :=
  (h.setCell (p := ⟨r, 0, none⟩) (.inr hr) u).setCell (p := ⟨r, 1, none⟩) (.inr hr) v
set_option maxHeartbeats 4000000 in
theorem uref_Message (hU : UrefAt own c d w q p2 t2 s ms) (hM : MemAt refK own cm w p2 0 n m) (hcd : c ≠ d) (hcm : c ≠ cm ∧ d ≠ cm) (hok : UsOk n s) (hms : ms.length < 4398046511104) (dev : Int) (a : Nat) (data : Int) (ha : a < 18446744073709551616) :
    Calls Tryz.prog 79 #[.pointer (some ⟨q, 0, none⟩), .int .i64 dev, .int .u64 (a : Int), .int .u64 data] w fun e w' =>
      e = .returned (.tuple #[.agg #[.int .i64 (msgV ms dev a data).1, .int .i64 (msgV ms dev a data).2], .bool (msgOk ms dev a data)]) ∧
      ∃ own', Step (fun x => x = c ∨ x = cm) own w own' w' ∧ UrefAt own' c d w' q p2 t2 (msgS s ms dev a data) ms ∧ MemAt refK own' cm w' p2 0 n (msgM s m ms dev a data) := by
  have HT := Lib.hid (fun w => ur_none dev w)
  obtain ⟨K, hK⟩ : ∃ K, K = c + d + cm + 1 := ⟨_, rfl⟩
  have hst0 : Step (fun _ => False) own w (ext own w K) (w.alloc (.cells #[.int .i64 0, .int .i64 0] 47)) := ⟨(Upd.refl _ _).alloc _, fun b hb => ext_old _ _ _ hb⟩
  have hB0 := Blk.new w 47 #[.int .i64 0, .int .i64 0]
  have ho0 : ext own w K w.heap.size = K := ext_new _ _ _ (Nat.le_refl _)
  by_cases hd : 0 ≤ dev ∧ dev < 8
  · obtain ⟨k0, rfl⟩ := Int.eq_ofNat_of_zero_le hd.1
    have hk08 : k0 < 8 := by omega
    have hde : (!decide (0 ≤ (k0 : Int) ∧ (k0 : Int) < 8)) = false := by simpa using hd
    have hst1 : Step (fun _ => False) (ext own w K) (w.alloc (.cells #[.int .i64 0, .int .i64 0] 47)) (ext (ext own w K) (w.alloc (.cells #[.int .i64 0, .int .i64 0] 47)) K) ((w.alloc (.cells #[.int .i64 0, .int .i64 0] 47)).alloc (.cells #[.int .i64 0, .int .i64 0] 47)) := ⟨(Upd.refl _ _).alloc _, fun b hb => ext_old _ _ _ hb⟩
    have hX1 := Blk.new (w.alloc (.cells #[.int .i64 0, .int .i64 0] 47)) 47 #[.int .i64 0, .int .i64 0]
    have hoX1 : ext (ext own w K) (w.alloc (.cells #[.int .i64 0, .int .i64 0] 47)) K (w.alloc (.cells #[.int .i64 0, .int .i64 0] 47)).heap.size = K := ext_new _ _ _ (Nat.le_refl _)
    obtain ⟨hB1, hoB1⟩ := hst1.blk hB0 ho0 (fun h => h)
    have hst := hst0.trans hst1
    have hU1 := hU.step hst (fun h => h) (fun h => h)
    have hM1 := hM.step hst (fun h => h)
    rw [World.size_alloc] at hX1 hoX1
    have H0 := Lib.hid (And.intro hst (And.intro hU1 (And.intro hM1 (And.intro (And.intro hB1 hoB1) (And.intro hX1 hoX1)))))
    have HOK := Lib.hid hok
    have hlx : w.heap.size + 1 < ((w.alloc (.cells #[.int .i64 0, .int .i64 0] 47)).alloc (.cells #[.int .i64 0, .int .i64 0] 47)).heap.size := hX1.lt
    clear hU hM hst0 hB0 ho0 hst1 hX1 hoX1 hB1 hoB1 hst hU1 hM1 hd hok
    go_enter Tryz.func79, Tryz.ntmps79
    go_wp2_with fail
    ((with_reducible refine (HT.out _).mono ?_); rintro e wz ⟨rfl, rfl⟩)
    rw [hde]
    clear HT
    go_wp2
    generalize ext (ext own w K) (w.alloc (.cells #[.int .i64 0, .int .i64 0] 47)) K = own1 at *
    generalize ((w.alloc (.cells #[.int .i64 0, .int .i64 0] 47)).alloc (.cells #[.int .i64 0, .int .i64 0] 47)) = w1 at *
    generalize hrb : w.heap.size = rb at *
    obtain ⟨A, cap, _, hRW⟩ := H0.out.2.1.msis
    have HRW := Lib.hid (hRW.reads rfl)
    clear hRW
    go_loopw [11] (fun i wr => ∃ (k : Nat), k ≤ ms.length ∧ i = .int .i64 (k : Int) ∧ Hid (Upd (· = rb + 1) w1 wr ∧ Blk wr rb 47 #[.int .i64 0, .int .i64 0] ∧ Blk wr (rb + 1) 47 #[.int .i64 (msL (ms.take k) k0 data).1, .int .i64 (msL (ms.take k) k0 data).2])) (fun i _ => ms.length - (intOf i).toNat)
    case atStart => exact ⟨0, by omega, rfl, Upd.refl _ _, H0.out.2.2.2.1.1, H0.out.2.2.2.2.1⟩
    case round =>
      rename World => wr
      obtain ⟨k, hk, rfl, HL⟩ := hrel
      obtain ⟨hUp, hBr, hBx⟩ := HL.out
      have hS : Step (· = K) own1 w1 own1 wr := ⟨hUp.mono (fun i hi e => by rw [e]; exact H0.out.2.2.2.2.2), fun _ _ => rfl⟩
      have hUr := H0.out.2.1.step hS (by omega) (by omega)
      obtain ⟨A', cap', c10, hR'⟩ := hUr.msis
      have hlt0 := hUr.cells.2.2.2.2.2.2.2
      have x0 := hBx.cell 0
      have x1 := hBx.cell 1
      simp only [List.getElem?_toArray, List.getElem?_cons_zero, List.getElem?_cons_succ] at x0 x1
      have zx0 := hBx.frozen 0
      have zx1 := hBx.frozen 1
      have hlxr := hBx.lt
      by_cases hlt : k < ms.length
      · have hlt' : (k : Int) < (ms.length : Int) := by omega
        have hget : ms[k]? = some ms[k] := List.getElem?_eq_getElem hlt
        obtain ⟨b, o, rfl, hbl, hc⟩ := (hR'.reads rfl).first (by omega) (by decide)
        obtain ⟨q0, q1, q2, q3⟩ := tosC_at ms k _ hget
        have d0 := hc _ _ q0
        have d1 := hc _ _ q1
        have d2 := hc _ _ q2
        have d3 := hc _ _ q3
        simp only [← Nat.add_assoc] at d1 d2 d3
        have hstep := msL_take hget (k0 : Int) data
        generalize ms[k] = t at *
        obtain ⟨td, ti, tg, tq⟩ := t
        simp only [] at d0 d1 d2 d3 hstep
        have HN := Lib.hid (And.intro hUp (And.intro hBr (And.intro hBx hstep)))
        clear hUp hS hBr hBx hUr hR' hget hc q0 q1 q2 q3 hstep HL
        by_cases h1 : td = (k0 : Int)
        · subst h1
          by_cases h2 : ti = data
          · subst h2
            have hm : msL (ms.take (k + 1)) k0 ti = (tg, tq) := by rw [HN.out.2.2.2, if_pos ⟨rfl, rfl⟩]
            have HM := Lib.hid hm
            clear hm
            go_wp2
            refine ⟨⟨k + 1, by omega, by go_num, ?_⟩, by simp [intOf]; omega⟩
            refine Lib.hid ⟨(HN.out.1.setCell (p := ⟨rb + 1, 0, none⟩) (.inl rfl) _).setCell (p := ⟨rb + 1, 1, none⟩) (.inl rfl) _, ?_, ?_⟩
            · exact (HN.out.2.1.far (p := ⟨rb + 1, 0, none⟩) (by show rb ≠ rb + 1; omega) _).far (p := ⟨rb + 1, 1, none⟩) (by show rb ≠ rb + 1; omega) _
            · rw [HM.out]; exact (HN.out.2.2.1.set_ 0 (.int .i64 tg)).set_ 1 (.int .i64 tq)
          · have h2d : (ti == data) = false := by simpa using h2
            have hm : msL (ms.take (k + 1)) k0 data = msL (ms.take k) k0 data := by rw [HN.out.2.2.2, if_neg (fun h => h2 h.2)]
            have HM := Lib.hid hm
            clear hm
            go_wp2
            exact ⟨⟨k + 1, by omega, by go_num, HN.out.1, HN.out.2.1, by rw [HM.out]; exact HN.out.2.2.1⟩, by simp [intOf]; omega⟩
        · have h1d : (td == (k0 : Int)) = false := by simpa using h1
          have hm : msL (ms.take (k + 1)) k0 data = msL (ms.take k) k0 data := by rw [HN.out.2.2.2, if_neg (fun h => h1 h.1)]
          have HM := Lib.hid hm
          clear hm
          go_wp2
          exact ⟨⟨k + 1, by omega, by go_num, HN.out.1, HN.out.2.1, by rw [HM.out]; exact HN.out.2.2.1⟩, by simp [intOf]; omega⟩
      · obtain rfl : k = ms.length := by omega
        rw [List.take_length] at hBx x0 x1
        obtain ⟨⟨M1, M2⟩, hMe⟩ : ∃ M, msL ms k0 data = M := ⟨_, rfl⟩
        rw [hMe] at hBx x0 x1
        simp only [] at hBx x0 x1
        have hUf : Upd (fun _ => False) w wr := H0.out.1.upd.trans' hUp (fun i hi e => by omega)
        have hMr := H0.out.2.2.1.step hS (by omega)
        have zr0 := hBr.frozen 0
        have zr1 := hBr.frozen 1
        have y0 := hBr.cell 0
        have y1 := hBr.cell 1
        simp only [List.getElem?_toArray, List.getElem?_cons_zero, List.getElem?_cons_succ] at y0 y1
        have hlr := hBr.lt
        by_cases hgood : a = 4276092928 ∧ M1 ≠ 0
        · obtain ⟨rfl, hM1⟩ := hgood
          have hdd : decide (0 ≤ (k0 : Int) ∧ (k0 : Int) < 8) = true := decide_eq_true ⟨by omega, by omega⟩
          have hok1 : msgOk ms k0 4276092928 data = true := by unfold msgOk; rw [hMe, hdd]; simpa using hM1
          have hv1 : msgV ms k0 4276092928 data = (M1, M2) := by unfold msgV; rw [hok1, hMe]; rfl
          have hv2 : msgS s ms k0 4276092928 data = s := by unfold msgS; rw [hok1]; rfl
          have hv3 : msgM s m ms k0 4276092928 data = m := by unfold msgM; rw [hok1]; rfl
          have HK1 := Lib.hid (And.intro hok1 (And.intro hv1 (And.intro hv2 hv3)))
          have hM0 : (M1 == 0) = false := by simpa using hM1
          rw [show ((4276092928 : Nat) : Int) = 4276092928 from rfl]
          have HF := Lib.hid (And.intro hUf (And.intro hUr (And.intro hMr hBr)))
          clear hUp hS hBr hBx hUr hR' hUf hMr hMe hok1 hM1 HL HRW HOK hdd hv1 hv2 hv3
          go_wp2
          refine bodyPost_ret (results_cell_tmp_row rfl _ _ rb 47 #[.int .i64 M1, .int .i64 M2] _ rfl ((HF.out.2.2.2.set_ 0 (.int .i64 M1)).set_ 1 (.int .i64 M2)) Tryz.underlying47 rfl (by kernel_rfl)) rfl ?_
          rw [HK1.out.1, HK1.out.2.1, HK1.out.2.2.1, HK1.out.2.2.2]
          have hstf : Step (· = K) own1 wr own1 ((wr.setCell ⟨rb, 0, none⟩ (.int .i64 M1)).setCell ⟨rb, 1, none⟩ (.int .i64 M2)) := ⟨((Upd.refl _ _).setCell (p := ⟨rb, 0, none⟩) (.inl H0.out.2.2.2.1.2) _).setCell (p := ⟨rb, 1, none⟩) (.inl H0.out.2.2.2.1.2) _, fun _ _ => rfl⟩
          exact ⟨rfl, own1, ⟨(upd_set2 HF.out.1 (Nat.le_of_eq hrb) _ _).mono (fun _ _ h => h.elim), H0.out.1.old⟩, HF.out.2.1.step hstf (by omega) (by omega), HF.out.2.2.1.step hstf (by omega)⟩
        · have hdd : decide (0 ≤ (k0 : Int) ∧ (k0 : Int) < 8) = true := decide_eq_true ⟨by omega, by omega⟩
          have hok1 : msgOk ms k0 a data = false := by
            unfold msgOk
            rw [hMe, hdd]
            by_cases h1 : a = 4276092928
            · have h2 : M1 = 0 := by
                by_cases h2 : M1 = 0
                · exact h2
                · exact absurd ⟨h1, h2⟩ hgood
              simp [h2]
            · simp [h1]
          have e1 : accSt s (k0 : Int) 5 = recS s := by unfold accSt; rw [if_neg (by omega)]
          have e2 : accMt s m (k0 : Int) 5 a = recM s m k0 5 a := by unfold accMt; rw [if_neg (by omega)]; rfl
          have hv1 : msgV ms k0 a data = (0, 0) := by unfold msgV; rw [hok1]; rfl
          have hv2 : msgS s ms k0 a data = recS s := by unfold msgS; rw [hok1]; exact e1
          have hv3 : msgM s m ms k0 a data = recM s m k0 5 a := by unfold msgM; rw [hok1]; exact e2
          have HK1 := Lib.hid (And.intro hok1 (And.intro hv1 (And.intro hv2 hv3)))
          clear hdd
          have hBl := uref_blocked hUr hMr hcd hcm HOK.out k0 5 a hk08 (by decide) ha
          rw [show ((5 : Nat) : Int) = 5 from rfl] at hBl
          have HBl := Lib.hid hBl
          have HF := Lib.hid (And.intro hUf hBr)
          have hcase : (a == 4276092928) = false ∨ a = 4276092928 ∧ M1 = 0 := by
            by_cases h1 : a = 4276092928
            · right; refine ⟨h1, ?_⟩
              by_cases h2 : M1 = 0
              · exact h2
              · exact absurd ⟨h1, h2⟩ hgood
            · left; simpa using h1
          clear hUp hS hBr hBx hUr hR' hUf hMr hMe hok1 HL HRW HOK hgood e1 e2 hBl hv1 hv2 hv3
          have fin : ∀ (w2 : World) (own2 : Nat → Nat), Step (fun x => x = c ∨ x = cm) own1 wr own2 w2 → UrefAt own2 c d w2 q p2 t2 (recS s) ms → MemAt refK own2 cm w2 p2 0 n (recM s m k0 5 a) →
              Blk w2 rb 47 #[.int .i64 0, .int .i64 0] ∧ Hid (∃ own', Step (fun x => x = c ∨ x = cm) own w own' ((w2.setCell ⟨rb, 0, none⟩ (.int .i64 0)).setCell ⟨rb, 1, none⟩ (.int .i64 0)) ∧ UrefAt own' c d ((w2.setCell ⟨rb, 0, none⟩ (.int .i64 0)).setCell ⟨rb, 1, none⟩ (.int .i64 0)) q p2 t2 (recS s) ms ∧ MemAt refK own' cm ((w2.setCell ⟨rb, 0, none⟩ (.int .i64 0)).setCell ⟨rb, 1, none⟩ (.int .i64 0)) p2 0 n (recM s m k0 5 a)) := by
            intro w2 own2 hS2 hU2 hM2
            obtain ⟨g1, g2⟩ := hS2.blk HF.out.2 H0.out.2.2.2.1.2 (by omega)
            have hstf : Step (· = K) own2 w2 own2 ((w2.setCell ⟨rb, 0, none⟩ (.int .i64 0)).setCell ⟨rb, 1, none⟩ (.int .i64 0)) := ⟨((Upd.refl _ _).setCell (p := ⟨rb, 0, none⟩) (.inl g2) _).setCell (p := ⟨rb, 1, none⟩) (.inl g2) _, fun _ _ => rfl⟩
            have hsw : Step (fun x => x = c ∨ x = cm) own w own2 w2 := (show Step (fun x => x = c ∨ x = cm) own w own1 wr from ⟨HF.out.1.mono (fun _ _ h => h.elim), H0.out.1.old⟩).trans hS2
            refine ⟨g1, own2, ⟨(hsw.upd.setCell (p := ⟨rb, 0, none⟩) (.inr (Nat.le_of_eq hrb)) _).setCell (p := ⟨rb, 1, none⟩) (.inr (Nat.le_of_eq hrb)) _, hsw.old⟩, hU2.step hstf (by omega) (by omega), hM2.step hstf (by omega)⟩
          have FIN := Lib.hid fin
          clear fin
          rcases hcase with h1 | ⟨rfl, rfl⟩
          · have h1d : ((a : Int) == 4276092928) = false := by simp at h1 ⊢; omega
            go_wp2_with fail
            ((with_reducible refine HBl.out.mono ?_); rintro e w2 ⟨rfl, own2, hS2, hU2, hM2⟩)
            obtain ⟨g1, HG⟩ := FIN.out _ _ hS2 hU2 hM2
            have z0 := g1.frozen 0
            have z1 := g1.frozen 1
            have y0 := g1.cell 0
            have y1 := g1.cell 1
            simp only [List.getElem?_toArray, List.getElem?_cons_zero, List.getElem?_cons_succ] at y0 y1
            have hl2 := g1.lt
            have HB := Lib.hid g1
            clear hS2 hU2 hM2 g1 HBl FIN HF
            go_wp2
            refine bodyPost_ret (results_cell_tmp_row rfl _ _ rb 47 #[.int .i64 0, .int .i64 0] _ rfl ((HB.out.set_ 0 (.int .i64 0)).set_ 1 (.int .i64 0)) Tryz.underlying47 rfl (by kernel_rfl)) rfl ?_
            rw [HK1.out.1, HK1.out.2.1, HK1.out.2.2.1, HK1.out.2.2.2]
            exact ⟨rfl, HG.out⟩
          · rw [show ((4276092928 : Nat) : Int) = 4276092928 from rfl] at HBl ⊢
            go_wp2_with fail
            ((with_reducible refine HBl.out.mono ?_); rintro e w2 ⟨rfl, own2, hS2, hU2, hM2⟩)
            obtain ⟨g1, HG⟩ := FIN.out _ _ hS2 hU2 hM2
            have z0 := g1.frozen 0
            have z1 := g1.frozen 1
            have y0 := g1.cell 0
            have y1 := g1.cell 1
            simp only [List.getElem?_toArray, List.getElem?_cons_zero, List.getElem?_cons_succ] at y0 y1
            have hl2 := g1.lt
            have HB := Lib.hid g1
            clear hS2 hU2 hM2 g1 HBl FIN HF
            go_wp2
            refine bodyPost_ret (results_cell_tmp_row rfl _ _ rb 47 #[.int .i64 0, .int .i64 0] _ rfl ((HB.out.set_ 0 (.int .i64 0)).set_ 1 (.int .i64 0)) Tryz.underlying47 rfl (by kernel_rfl)) rfl ?_
            rw [HK1.out.1, HK1.out.2.1, HK1.out.2.2.1, HK1.out.2.2.2]
            exact ⟨rfl, HG.out⟩
  · have hno : msgOk ms dev a data = false := by unfold msgOk; rw [decide_eq_false hd]; rfl
    have e1 : accSt s dev 5 = s := by unfold accSt; rw [if_pos (.inr hd)]
    have e2 : accMt s m dev 5 a = m := by unfold accMt; rw [if_pos (.inr hd)]
    have hv1 : msgV ms dev a data = (0, 0) := by unfold msgV; rw [hno]; rfl
    have hv2 : msgS s ms dev a data = s := by unfold msgS; rw [hno, e1]; rfl
    have hv3 : msgM s m ms dev a data = m := by unfold msgM; rw [hno, e2]; rfl
    rw [hno, hv1, hv2, hv3]
    have hde : (!decide (0 ≤ dev ∧ dev < 8)) = true := by rw [decide_eq_false hd]; rfl
    have HB := Lib.hid hB0
    have HE := Lib.hid (And.intro hU hM)
    have z0 := hB0.frozen 0
    have z1 := hB0.frozen 1
    have x0 := hB0.cell 0
    have x1 := hB0.cell 1
    simp only [List.getElem?_toArray, List.getElem?_cons_zero, List.getElem?_cons_succ] at x0 x1
    have hl := hB0.lt
    clear hU hM hst0 hB0 ho0 hno e1 e2 hd hok hv1 hv2 hv3
    go_enter Tryz.func79, Tryz.ntmps79
    go_wp2_with fail
    ((with_reducible refine (HT.out _).mono ?_); rintro e wz ⟨rfl, rfl⟩)
    rw [hde]
    clear HT
    go_wp2
    refine bodyPost_ret (results_cell_tmp_row rfl _ _ w.heap.size 47 #[.int .i64 0, .int .i64 0] _ rfl HB.out Tryz.underlying47 rfl (by kernel_rfl)) rfl ?_
    have hstf := step_allocS own w (.cells #[.int .i64 0, .int .i64 0] 47)
    exact ⟨rfl, own, hstf.mono (fun _ h => h.elim), HE.out.1.step hstf (fun h => h) (fun h => h), HE.out.2.step hstf (fun h => h)⟩
end
end Go.Proofs.YtonhlgfgbdiapaaGreat

/- The IOMMU: Set, Drop, Remap, Ring, Message, Evict, InvalidatePage, whatever is said. -/
namespace Go.Proofs.YtonhlgfgbdiapaaGreat
set_option linter.unusedVariables false
set_option linter.unusedSimpArgs false
open Go.RowKit
set_option maxRecDepth 100000

section
variable {own : Nat → Nat} {c cm ct cd p rp tp n r : Nat} {w : World} {s : Us} {m : Nat → Int} {l : List Tr}
theorem io_SetX (h : UsAt own c w p rp tp s) (dev : Int) (x : Nat) : Calls Tryz.prog 9 #[.pointer (some ⟨p, 0, none⟩), .int .i64 dev, .int .u64 (x : Int)] w fun e w' => e = .returned (.int .i64 (setRA dev x)) ∧ Step (· = c) own w own w' ∧ UsAt own c w' p rp tp (setSA s dev x) := by
  by_cases hg : (0 ≤ dev ∧ dev < 8) ∧ x ≠ 0
  · obtain ⟨k, rfl⟩ := Int.eq_ofNat_of_zero_le hg.1.1
    rw [show setRA (k : Int) x = 0 from if_pos hg, show setSA s (k : Int) x = usRt s k x from if_pos hg]
    exact io_Set h k x (by omega) hg.2
  · rw [show setRA dev x = 1 from if_neg hg, show setSA s dev x = s from if_neg hg]
    refine (io_Set_bad dev x (by omega) w).mono ?_
    rintro e w1 ⟨rfl, rfl⟩
    exact ⟨rfl, Step.refl _ _ _, h⟩
theorem io_DropX (h : UsAt own c w p rp tp s) (dev : Int) : Calls Tryz.prog 82 #[.pointer (some ⟨p, 0, none⟩), .int .i64 dev] w fun e w' => e = .returned (.int .i64 (dropRA dev)) ∧ Step (· = c) own w own w' ∧ UsAt own c w' p rp tp (dropSA s dev) := by
  by_cases hg : 0 ≤ dev ∧ dev < 8
  · obtain ⟨k, rfl⟩ := Int.eq_ofNat_of_zero_le hg.1
    rw [show dropRA (k : Int) = 0 from if_pos hg, show dropSA s (k : Int) = usRt s k 0 from if_pos hg]
    exact io_Drop h k (by omega)
  · rw [show dropRA dev = 1 from if_neg hg, show dropSA s dev = s from if_neg hg]
    refine (io_Drop_bad dev hg w).mono ?_
    rintro e w1 ⟨rfl, rfl⟩
    exact ⟨rfl, Step.refl _ _ _, h⟩
def remS (s : Us) (dev : Int) (k : Nat) (g i : Int) : Us := if remOk dev k then usMs s dev.toNat k g i else s
theorem io_Remap_bad (dev : Int) (k : Nat) (hk : k < 18446744073709551616) (g i : Int) (hb : remOk dev k = false) (own : Nat → Nat) (w : World) : Calls Tryz.prog 84 #[.pointer (some ⟨p, 0, none⟩), .int .i64 dev, .int .u64 (k : Int), .agg #[.int .i64 g, .int .i64 i]] w fun e w' => e = .returned (.int .i64 1) ∧ Step (fun _ => False) own w own w' := by
  have HT := Lib.hid (fun w => io_there dev w)
  have hst := step_allocS own w (.cells #[.int .i64 g, .int .i64 i] 47)
  have HS := Lib.hid hst
  by_cases hd : 0 ≤ dev ∧ dev < 8
  · have hde : decide (0 ≤ dev ∧ dev < 8) = true := decide_eq_true hd
    have hkd : decide ((32 : Int) ≤ (k : Int)) = true := by unfold remOk at hb; rw [hde] at hb; simp at hb ⊢; omega
    clear hst hb hd
    go_enter Tryz.func84, Tryz.ntmps84
    go_wp2_with fail
    ((with_reducible refine (HT.out _).mono ?_); rintro e wz ⟨rfl, rfl⟩)
    rw [hde]
    clear HT
    go_wp2
    go_ret
    exact ⟨rfl, HS.out⟩
  · have hde : decide (0 ≤ dev ∧ dev < 8) = false := decide_eq_false hd
    clear hst hb hd
    go_enter Tryz.func84, Tryz.ntmps84
    go_wp2_with fail
    ((with_reducible refine (HT.out _).mono ?_); rintro e wz ⟨rfl, rfl⟩)
    rw [hde]
    clear HT
    go_wp2
    go_ret
    exact ⟨rfl, HS.out⟩
theorem io_RemapX (h : UsAt own c w p rp tp s) (dev : Int) (k : Nat) (hk : k < 18446744073709551616) (g i : Int) : Calls Tryz.prog 84 #[.pointer (some ⟨p, 0, none⟩), .int .i64 dev, .int .u64 (k : Int), .agg #[.int .i64 g, .int .i64 i]] w fun e w' => e = .returned (.int .i64 (if remOk dev k then 0 else 1)) ∧ ∃ own', Step (· = c) own w own' w' ∧ UsAt own' c w' p rp tp (remS s dev k g i) := by
  cases hr : remOk dev k with
  | true =>
    obtain ⟨hd, hk32⟩ : (0 ≤ dev ∧ dev < 8) ∧ k < 32 := by unfold remOk at hr; simpa using hr
    obtain ⟨d, rfl⟩ := Int.eq_ofNat_of_zero_le hd.1
    rw [show remS s (d : Int) k g i = usMs s d k g i from by unfold remS; rw [hr]; rfl]
    exact io_Remap h d k (by omega) hk32 g i
  | false =>
    rw [show remS s dev k g i = s from by unfold remS; rw [hr]; rfl]
    refine (io_Remap_bad dev k hk g i hr own w).mono ?_
    rintro e w1 ⟨rfl, hS⟩
    exact ⟨rfl, own, hS.mono (fun _ h => h.elim), h.step hS (fun h => h)⟩
theorem io_RingX (hU : UsAt own c w p rp tp s) (hM : MemAt ramK own cm w rp 0 n m) (a : Nat) (ha : a < 18446744073709551616) :
    Calls Tryz.prog 8 #[.pointer (some ⟨p, 0, none⟩), .int .u64 (a : Int)] w fun e w' => e = .returned (.int .i64 (if ringOk n a then 0 else 1)) ∧ Step (· = c) own w own w' ∧ UsAt own c w' p rp tp (ringS n s a) := by
  cases hr : ringOk n a with
  | true =>
    obtain ⟨h1, h2⟩ : a % 4096 = 0 ∧ a + 4096 ≤ n * 4096 := by unfold ringOk at hr; simpa using hr
    rw [show ringS n s a = usRg s a from by unfold ringS; rw [hr]; rfl]
    exact io_Ring hU hM a h1 h2
  | false =>
    rw [show ringS n s a = s from by unfold ringS; rw [hr]; rfl]
    obtain ⟨c0, _⟩ := hU.rest
    by_cases hz : a % 4096 = 0
    · have hh := ram_hasC hM (a : Int) 4096 (by omega) (by omega) (by decide) (by decide)
      rw [← ring_has hz, hr] at hh
      have HH := Lib.hid hh
      have hz2 : (a : Int) % 4096 = 0 := by omega
      have HU := Lib.hid hU
      clear hU hM hh hr
      go_enter Tryz.func8, Tryz.ntmps8
      go_wp2_with fail
      ((with_reducible refine HH.out.mono ?_); rintro e wz ⟨rfl, q, rfl⟩)
      have hst : Step (fun _ => False) own w own (w.drewN q) := (Step.refl _ _ _).drewN q
      have HF := Lib.hid (And.intro (hst.mono (C' := (· = c)) (fun _ h => h.elim)) (HU.out.step hst (fun h => h)))
      clear HH HU hst
      go_wp2
      go_ret
      exact ⟨rfl, HF.out⟩
    · have hz2 : ((a : Int) % 4096 == 0) = false := by simp; omega
      have hz3 : ((a : Int) % 4096 != 0) = true := by simp; omega
      have HF := Lib.hid (And.intro (Step.refl (· = c) own w) hU)
      clear hU hM hr
      go_enter Tryz.func8, Tryz.ntmps8
      go_wp2
      go_ret
      exact ⟨rfl, HF.out⟩
/-- the places of both are the same -/
def MsRel (s : Us) (ms : List To4) : Prop := ∀ d k : Nat, d < 8 → msL ms d k = if k < 32 then (s.mg d k, s.mi d k) else (0, 0)
theorem MsRel.init : MsRel us0 [] := fun d k hd => by split <;> rfl
theorem MsRel.rem {s : Us} {ms : List To4} (h : MsRel s ms) (dev : Int) (k : Nat) (g i : Int) : MsRel (remS s dev k g i) (if remOk dev k then ms ++ [⟨dev, k, g, i⟩] else ms) := by
  unfold remS
  cases hr : remOk dev k with
  | false => simp only [Bool.false_eq_true, if_false]; exact h
  | true =>
    simp only [if_true]
    obtain ⟨hd, hk32⟩ : (0 ≤ dev ∧ dev < 8) ∧ k < 32 := by unfold remOk at hr; simpa using hr
    obtain ⟨d, rfl⟩ := Int.eq_ofNat_of_zero_le hd.1
    intro d' k' hd'
    rw [msL_snoc]
    simp only [Int.toNat_natCast]
    by_cases he : d = d' ∧ k = k'
    · obtain ⟨rfl, rfl⟩ := he
      rw [if_pos ⟨rfl, rfl⟩, if_pos hk32]
      show (g, i) = ((if d = d ∧ k = k then g else s.mg d k), (if d = d ∧ k = k then i else s.mi d k))
      rw [if_pos ⟨rfl, rfl⟩, if_pos ⟨rfl, rfl⟩]
    · rw [if_neg (by omega), h d' k' hd']
      split
      · show _ = ((if d' = d ∧ k' = k then g else s.mg d' k'), (if d' = d ∧ k' = k then i else s.mi d' k'))
        rw [if_neg (by omega), if_neg (by omega)]
      · rfl
theorem MsRel.of_mg {s s' : Us} {ms : List To4} (h : MsRel s ms) (h1 : s'.mg = s.mg) (h2 : s'.mi = s.mi) : MsRel s' ms := by
  intro d k hd; rw [h1, h2]; exact h d k hd
set_option maxHeartbeats 1500000 in
theorem io_Msg_far (dev : Int) (hd : ¬ (0 ≤ dev ∧ dev < 8)) (a k : Int) (own : Nat → Nat) (w : World) :
    Calls Tryz.prog 78 #[.pointer (some ⟨p, 0, none⟩), .int .i64 dev, .int .u64 a, .int .u64 k] w fun e w' => e = .returned (.tuple #[.agg #[.int .i64 0, .int .i64 0], .bool false]) ∧ Step (fun _ => False) own w own w' := by
  have HT := Lib.hid (fun w => io_there dev w)
  have hde : decide (0 ≤ dev ∧ dev < 8) = false := decide_eq_false hd
  have HB := Lib.hid (fun w => io_blocked_no (p := p) dev hd 5 a w)
  have hB := Blk.new w 47 #[.int .i64 0, .int .i64 0]
  have z0 := hB.frozen 0
  have z1 := hB.frozen 1
  have x0 := hB.cell 0
  have x1 := hB.cell 1
  simp only [List.getElem?_toArray, List.getElem?_cons_zero, List.getElem?_cons_succ] at x0 x1
  have hl := hB.lt
  have HBk := Lib.hid hB
  have HS := Lib.hid (step_allocS own w (.cells #[.int .i64 0, .int .i64 0] 47))
  clear hB hd
  go_enter Tryz.func78, Tryz.ntmps78
  go_wp2_with fail
  ((with_reducible refine (HT.out _).mono ?_); rintro e wz ⟨rfl, rfl⟩)
  rw [hde]
  clear HT
  go_wp2_with fail
  ((with_reducible refine (HB.out _).mono ?_); rintro e wz ⟨rfl, rfl⟩)
  go_wp2
  refine bodyPost_ret (results_cell_tmp_row rfl _ _ w.heap.size 47 #[.int .i64 0, .int .i64 0] _ rfl HBk.out Tryz.underlying47 rfl (by kernel_rfl)) rfl ?_
  exact ⟨rfl, HS.out⟩
theorem io_MsgX (hU : UsAt own c w p rp tp s) (hM : MemAt ramK own cm w rp 0 n m) (hcm : c ≠ cm) (hok : UsOk n s) {ms : List To4} (hr : MsRel s ms) (dev : Int) (a k : Nat) (ha : a < 18446744073709551616) :
    Calls Tryz.prog 78 #[.pointer (some ⟨p, 0, none⟩), .int .i64 dev, .int .u64 (a : Int), .int .u64 (k : Int)] w fun e w' => e = .returned (.tuple #[.agg #[.int .i64 (msgV ms dev a k).1, .int .i64 (msgV ms dev a k).2], .bool (msgOk ms dev a k)]) ∧
      ∃ own', Step (fun x => x = c ∨ x = cm) own w own' w' ∧ UsAt own' c w' p rp tp (msgS s ms dev a k) ∧ MemAt ramK own' cm w' rp 0 n (msgM s m ms dev a k) := by
  by_cases hd : 0 ≤ dev ∧ dev < 8
  · obtain ⟨d, rfl⟩ := Int.eq_ofNat_of_zero_le hd.1
    have hd8 : d < 8 := by omega
    have hdd : decide (0 ≤ (d : Int) ∧ (d : Int) < 8) = true := decide_eq_true hd
    have hrel := hr d k hd8
    by_cases hg : a = 4276092928 ∧ k < 32 ∧ s.mg d k ≠ 0
    · obtain ⟨rfl, hk, hm⟩ := hg
      rw [if_pos hk] at hrel
      have hok1 : msgOk ms d 4276092928 k = true := by unfold msgOk; rw [hrel, hdd]; simpa using hm
      rw [hok1, show msgV ms d 4276092928 k = (s.mg d k, s.mi d k) from by unfold msgV; rw [hok1]; exact hrel, show msgS s ms d 4276092928 k = s from by unfold msgS; rw [hok1]; rfl, show msgM s m ms d 4276092928 k = m from by unfold msgM; rw [hok1]; rfl, show ((4276092928 : Nat) : Int) = 4276092928 from rfl]
      refine (io_Msg_good hU hM d k hd8 hk hm).mono ?_
      rintro e w1 ⟨rfl, own1, hS, hU1, hM1⟩
      exact ⟨rfl, own1, hS.mono (fun _ h => h.elim), hU1, hM1⟩
    · have hok1 : msgOk ms d a k = false := by
        unfold msgOk
        rw [hdd, hrel]
        by_cases h1 : a = 4276092928
        · by_cases h2 : k < 32
          · rw [if_pos h2]
            have h3 : s.mg d k = 0 := by
              by_cases h3 : s.mg d k = 0
              · exact h3
              · exact absurd ⟨h1, h2, h3⟩ hg
            simp [h3]
          · rw [if_neg h2]; simp
        · simp [h1]
      have e1 : accSt s (d : Int) 5 = recS s := by unfold accSt; rw [if_neg (by omega)]
      have e2 : accMt s m (d : Int) 5 a = recM s m d 5 a := by unfold accMt; rw [if_neg (by omega)]; rfl
      rw [hok1, show msgV ms d a k = (0, 0) from by unfold msgV; rw [hok1]; rfl, show msgS s ms d a k = recS s from by unfold msgS; rw [hok1]; exact e1, show msgM s m ms d a k = recM s m d 5 a from by unfold msgM; rw [hok1]; exact e2]
      exact io_Msg_bad hU hM hcm hok d a k hd8 ha (by
        by_cases h1 : a = 4276092928
        · by_cases h2 : k < 32
          · right; right
            by_cases h3 : s.mg d k = 0
            · exact h3
            · exact absurd ⟨h1, h2, h3⟩ hg
          · right; left; omega
        · left; exact h1)
  · have hok1 : msgOk ms dev a k = false := by unfold msgOk; rw [decide_eq_false hd]; rfl
    have e1 : accSt s dev 5 = s := by unfold accSt; rw [if_pos (.inr hd)]
    have e2 : accMt s m dev 5 a = m := by unfold accMt; rw [if_pos (.inr hd)]
    rw [hok1, show msgV ms dev a k = (0, 0) from by unfold msgV; rw [hok1]; rfl, show msgS s ms dev a k = s from by unfold msgS; rw [hok1]; exact e1, show msgM s m ms dev a k = m from by unfold msgM; rw [hok1]; exact e2]
    refine (io_Msg_far dev hd a k own w).mono ?_
    rintro e w1 ⟨rfl, hS⟩
    exact ⟨rfl, own, hS.mono (fun _ h => h.elim), hU.step hS (fun h => h), hM.step hS (fun h => h)⟩
theorem io_EvictX (hU : UsAt own c w p rp tp s) (hT : TlbAt own ct cd w tp r l) (hcd : ct ≠ cd) (i : Int) :
    Calls Tryz.prog 92 #[.pointer (some ⟨p, 0, none⟩), .int .i64 i] w fun e w' => e = .returned (.bool (evictB l i)) ∧ ∃ own', Step (· = ct) own w own' w' ∧ TlbAt own' ct cd w' tp r (evictT l i) := by
  obtain ⟨c0, c1, _⟩ := hU.rest
  have HF := Lib.hid (tlb_Evict hT hcd i)
  clear hU hT
  go_enter Tryz.func92, Tryz.ntmps92
  go_wp2_with fail
  ((with_reducible refine HF.out.mono ?_); rintro e w1 ⟨rfl, h1⟩)
  have H1 := Lib.hid h1
  clear h1 HF
  go_wp2
  go_ret
  exact ⟨rfl, H1.out⟩
theorem io_InvPage (hU : UsAt own c w p rp tp s) (hT : TlbAt own ct cd w tp r l) (hcd : ct ≠ cd) (dev pg : Int) :
    Calls Tryz.prog 90 #[.pointer (some ⟨p, 0, none⟩), .int .i64 dev, .int .u64 pg] w fun e w' => e = .returned (.tuple #[]) ∧ ∃ own', Step (· = ct) own w own' w' ∧ TlbAt own' ct cd w' tp r (flushP l dev pg) := by
  obtain ⟨c0, c1, _⟩ := hU.rest
  have HF := Lib.hid (tlb_FlushPage hT hcd dev pg)
  clear hU hT
  go_enter Tryz.func90, Tryz.ntmps90
  go_wp2_with fail
  ((with_reducible refine HF.out.mono ?_); rintro e w1 ⟨rfl, h1⟩)
  have H1 := Lib.hid h1
  clear h1 HF
  go_wp2
  go_end0
  exact ⟨rfl, H1.out⟩
end
/-- S made more of, from here on -/
theorem wpE_mono {P : Program} {ops : Array Oper} {Q : Exit → Act → World → Prop} {S S' : World → Prop} {s : Nat} (hS : ∀ w, S' w → S w) : ∀ (n : Nat) (done : Array Bool) (a : Act) (w : World), wpE P ops Q S' s n done a w → wpE P ops Q S s n done a w
  | 0, _, _, _, h => h
  | n + 1, _, _, _, h => ⟨h.1, fun i hi => wpOp_mono (fun a' w' h' => ⟨h'.1.imp id (hS w'), wpE_mono hS n _ a' w' h'.2⟩) (h.2 i hi)⟩
end Go.Proofs.YtonhlgfgbdiapaaGreat

/- The document's IOMMU: Next. -/
namespace Go.Proofs.YtonhlgfgbdiapaaGreat
set_option linter.unusedVariables false
set_option linter.unusedSimpArgs false
open Go.RowKit
set_option maxRecDepth 100000

section
variable {own : Nat → Nat} {c d cm q p2 t2 n : Nat} {w : World} {s : Us} {ms : List To4} {m : Nat → Int}
set_option maxHeartbeats 1500000 in
theorem uref_Next_none (hU : UrefAt own c d w q p2 t2 s ms) (hr : nextOk s = false) :
    Calls Tryz.prog 86 #[.pointer (some ⟨q, 0, none⟩)] w fun e w' => e = .returned (.tuple #[.agg #[.int .i64 0, .int .i64 0, .int .u64 0], .bool false]) ∧ Upd (fun _ => False) w w' := by
  obtain ⟨c0, c1, c2, c3, c4, c5, c6, hlt⟩ := hU.cells
  clear hU
  unfold nextOk at hr
  rcases hq : s.rd with _ | _
  · rw [hq] at c3
    clear hr
    go_enter Tryz.func86, Tryz.ntmps86
    go_wp2
    refine bodyPost_ret (results_cell_tmp_row rfl _ _ w.heap.size 57 #[.int .i64 0, .int .i64 0, .int .u64 0] _ rfl (Blk.new w _ _) Tryz.underlying57 rfl (by kernel_rfl)) rfl ?_
    exact ⟨rfl, (Upd.refl _ _).alloc _⟩
  · rw [hq] at c3 hr
    have hu : s.un = 0 := by simpa using hr
    rw [hu, show ((0 : Nat) : Int) = 0 from rfl] at c5
    clear hr
    go_enter Tryz.func86, Tryz.ntmps86
    go_wp2
    refine bodyPost_ret (results_cell_tmp_row rfl _ _ w.heap.size 57 #[.int .i64 0, .int .i64 0, .int .u64 0] _ rfl (Blk.new w _ _) Tryz.underlying57 rfl (by kernel_rfl)) rfl ?_
    exact ⟨rfl, (Upd.refl _ _).alloc _⟩
set_option maxHeartbeats 1500000 in
theorem uref_Next (hU : UrefAt own c d w q p2 t2 s ms) (hM : MemAt refK own cm w p2 0 n m) (hcd : c ≠ d) (hcm : c ≠ cm ∧ d ≠ cm) (hok : UsOk n s) (hr : nextOk s = true) :
    Calls Tryz.prog 86 #[.pointer (some ⟨q, 0, none⟩)] w fun e w' => e = .returned (.tuple #[.agg #[.int .i64 (num m (nextA s) 4), .int .i64 (num m (nextA s + 4) 4), .int .u64 (num m (nextA s + 8) 8)], .bool true]) ∧
      ∃ own', Step (· = c) own w own' w' ∧ UrefAt own' c d w' q p2 t2 (nextS s) ms ∧ MemAt refK own' cm w' p2 0 n m := by
  obtain ⟨c0, c1, c2, c3, c4, c5, c6, hlt⟩ := hU.cells
  have hsz := hM.sizes
  have hbd := hM.bd
  obtain ⟨hA, hun, hrd⟩ := nextA_in hok hr
  have hne : nextS s = { s with fi := (s.fi + 1) % 256, un := s.un - 1 } := by unfold nextS; rw [hr]; rfl
  rw [hrd] at c3
  have hun0 : ((s.un : Int) == 0) = false := by simp; omega
  have hun1 := hok.un
  have hfi := hok.fi
  have hrg := hok.ring
  have hAe : nextA s = s.ring + s.fi * 16 := rfl
  generalize nextA s = A at *
  have g1 := rd_num n m A 4 rfl (by omega)
  have g2 := rd_num n m (A + 4) 4 rfl (by omega)
  have g3 := rd_num n m (A + 8) 8 rfl (by omega)
  rw [show ((A + 4 : Nat) : Int) = (A : Int) + 4 from rfl] at g2
  rw [show ((A + 8 : Nat) : Int) = (A : Int) + 8 from rfl] at g3
  rw [show ((4 : Nat) : Int) = 4 from rfl] at g1 g2
  rw [show ((8 : Nat) : Int) = 8 from rfl] at g3
  have b1 := num_nonneg hbd 4 A
  have b1' := num_lt hbd 4 A
  have b2 := num_nonneg hbd 4 (A + 4)
  have b2' := num_lt hbd 4 (A + 4)
  rw [show (256 : Int) ^ 4 = 4294967296 from rfl] at b1' b2'
  obtain ⟨x1, hx1⟩ : ∃ x, num m A 4 = x := ⟨_, rfl⟩
  obtain ⟨x2, hx2⟩ : ∃ x, num m (A + 4) 4 = x := ⟨_, rfl⟩
  obtain ⟨x3, hx3⟩ : ∃ x, num m (A + 8) 8 = x := ⟨_, rfl⟩
  rw [hx1] at b1 b1' g1 ⊢
  rw [hx2] at b2 b2' g2 ⊢
  rw [hx3] at g3 ⊢
  have hst : Step (fun _ => False) own w (ext own w (c + cm + d + 1)) (w.alloc (.cells #[.int .i64 0, .int .i64 0, .int .u64 0] 57)).drew := Step.drew ⟨(Upd.refl _ _).alloc _, fun b hb => ext_old _ _ _ hb⟩
  have hU1 := hU.step hst (fun h => h) (fun h => h)
  have hM1 := hM.step hst (fun h => h)
  have hB1 : Blk (w.alloc (.cells #[.int .i64 0, .int .i64 0, .int .u64 0] 57)).drew w.heap.size 57 #[.int .i64 0, .int .i64 0, .int .u64 0] := Blk.drew (Blk.new w _ _)
  have hO1 : ext own w (c + cm + d + 1) w.heap.size = c + cm + d + 1 := ext_new _ _ _ (Nat.le_refl _)
  have hR1 := mref_Read hM1 (A : Int) 4 (by omega) (by omega) (by decide) (by decide)
  rw [g1] at hR1
  have hR2 := mref_Read hM1 ((A : Int) + 4) 4 (by omega) (by omega) (by decide) (by decide)
  rw [g2] at hR2
  have hR3 := mref_Read hM1 ((A : Int) + 8) 8 (by omega) (by omega) (by decide) (by decide)
  rw [g3] at hR3
  have HR1 := Lib.hid hR1
  have HR2 := Lib.hid hR2
  have HR3 := Lib.hid hR3
  have HN := Lib.hid (And.intro hst (And.intro hU1 (And.intro hM1 (And.intro hB1 (And.intro hO1 hne)))))
  have HAE := Lib.hid hAe
  have hAN : (A : Int) + 16 ≤ n * 4096 := by omega
  clear hU hM hst hok hr hAe g1 g2 g3 hx1 hx2 hx3 hbd hrd hR1 hR2 hR3 hU1 hM1 hB1 hO1 hne
  go_enter Tryz.func86, Tryz.ntmps86
  go_wp2_with fail
  refine wpE_region (S := fun (W' : World) => W'.cell? ⟨q, 11, none⟩ = some (.int .u64 (s.ring : Int)) ∧ W'.cell? ⟨q, 13, none⟩ = some (.int .i64 (s.fi : Int))) (s := 11) (by kernel_rfl) ?_
  have hS : (fun (W' : World) => W'.cell? ⟨q, 11, none⟩ = some (.int .u64 (s.ring : Int)) ∧ W'.cell? ⟨q, 13, none⟩ = some (.int .i64 (s.fi : Int))) _ := ⟨HN.out.2.1.cells.2.2.1, HN.out.2.1.cells.2.2.2.2.1⟩
  refine wpE_take (i := 0) (oi := { dst := some 24, op := Go.Op.move (Go.Operand.tmp 0), type := 30, pos := "ref.go:108", after := #[], guard := none }) (v := ?_) rfl (by kernel_rfl) (fun _ _ _ h => h) (Or.inl ⟨by rfl, fun W hW => ?_⟩) hS ?_
  rotate_left
  · obtain ⟨hw1, hw2⟩ := hW; go_simp; (try go_bits); (try rw [if_pos (by omega)]); (try with_reducible rfl)
  (try simp only [Act.put, List.setIfInBounds_toArray, List.set_cons_succ, List.set_cons_zero])
  refine wpE_take (i := 1) (oi := { dst := some 25, op := Go.Op.nilCheck (Go.Operand.tmp 24), type := 0, pos := "ref.go:108", after := #[{ on := 0, ground := Go.Ground.data }], guard := none }) (v := ?_) rfl (by kernel_rfl) (fun _ _ _ h => h) (Or.inl ⟨by rfl, fun W hW => ?_⟩) hS ?_
  rotate_left
  · obtain ⟨hw1, hw2⟩ := hW; go_simp; (try go_bits); (try rw [if_pos (by omega)]); (try with_reducible rfl)
  (try simp only [Act.put, List.setIfInBounds_toArray, List.set_cons_succ, List.set_cons_zero])
  refine wpE_take (i := 2) (oi := { dst := some 26, op := Go.Op.fieldAddr 87 (Go.Operand.tmp 25) 4, type := 0, pos := "ref.go:108", after := #[{ on := 1, ground := Go.Ground.data }], guard := none }) (v := ?_) rfl (by kernel_rfl) (fun _ _ _ h => h) (Or.inl ⟨by rfl, fun W hW => ?_⟩) hS ?_
  rotate_left
  · obtain ⟨hw1, hw2⟩ := hW; go_simp; (try go_bits); (try rw [if_pos (by omega)]); (try with_reducible rfl)
  (try simp only [Act.put, List.setIfInBounds_toArray, List.set_cons_succ, List.set_cons_zero])
  refine wpE_take (i := 3) (oi := { dst := some 27, op := Go.Op.load 23 (Go.Operand.tmp 26), type := 23, pos := "ref.go:108", after := #[{ on := 2, ground := Go.Ground.data }], guard := none }) (v := ?_) rfl (by kernel_rfl) (fun _ _ _ h => h) (Or.inl ⟨by rfl, fun W hW => ?_⟩) hS ?_
  rotate_left
  · obtain ⟨hw1, hw2⟩ := hW; go_simp; (try go_bits); (try rw [if_pos (by omega)]); (try with_reducible rfl)
  (try simp only [Act.put, List.setIfInBounds_toArray, List.set_cons_succ, List.set_cons_zero])
  refine wpE_take (i := 4) (oi := { dst := some 28, op := Go.Op.move (Go.Operand.tmp 0), type := 30, pos := "ref.go:108", after := #[], guard := none }) (v := ?_) rfl (by kernel_rfl) (fun _ _ _ h => h) (Or.inl ⟨by rfl, fun W hW => ?_⟩) hS ?_
  rotate_left
  · obtain ⟨hw1, hw2⟩ := hW; go_simp; (try go_bits); (try rw [if_pos (by omega)]); (try with_reducible rfl)
  (try simp only [Act.put, List.setIfInBounds_toArray, List.set_cons_succ, List.set_cons_zero])
  refine wpE_take (i := 5) (oi := { dst := some 29, op := Go.Op.nilCheck (Go.Operand.tmp 28), type := 0, pos := "ref.go:108", after := #[{ on := 4, ground := Go.Ground.data }], guard := none }) (v := ?_) rfl (by kernel_rfl) (fun _ _ _ h => h) (Or.inl ⟨by rfl, fun W hW => ?_⟩) hS ?_
  rotate_left
  · obtain ⟨hw1, hw2⟩ := hW; go_simp; (try go_bits); (try rw [if_pos (by omega)]); (try with_reducible rfl)
  (try simp only [Act.put, List.setIfInBounds_toArray, List.set_cons_succ, List.set_cons_zero])
  refine wpE_take (i := 6) (oi := { dst := some 30, op := Go.Op.fieldAddr 87 (Go.Operand.tmp 29) 6, type := 0, pos := "ref.go:108", after := #[{ on := 5, ground := Go.Ground.data }], guard := none }) (v := ?_) rfl (by kernel_rfl) (fun _ _ _ h => h) (Or.inl ⟨by rfl, fun W hW => ?_⟩) hS ?_
  rotate_left
  · obtain ⟨hw1, hw2⟩ := hW; go_simp; (try go_bits); (try rw [if_pos (by omega)]); (try with_reducible rfl)
  (try simp only [Act.put, List.setIfInBounds_toArray, List.set_cons_succ, List.set_cons_zero])
  refine wpE_take (i := 7) (oi := { dst := some 31, op := Go.Op.load 3 (Go.Operand.tmp 30), type := 3, pos := "ref.go:108", after := #[{ on := 6, ground := Go.Ground.data }], guard := none }) (v := ?_) rfl (by kernel_rfl) (fun _ _ _ h => h) (Or.inl ⟨by rfl, fun W hW => ?_⟩) hS ?_
  rotate_left
  · obtain ⟨hw1, hw2⟩ := hW; go_simp; (try go_bits); (try rw [if_pos (by omega)]); (try with_reducible rfl)
  (try simp only [Act.put, List.setIfInBounds_toArray, List.set_cons_succ, List.set_cons_zero])
  refine wpE_take (i := 8) (oi := { dst := some 32, op := Go.Op.binOp Go.BinOp.mul 3 (Go.Operand.const (Go.Value.int Go.IntKind.i64 16)) (Go.Operand.tmp 31) 3, type := 3, pos := "ref.go:108", after := #[{ on := 7, ground := Go.Ground.data }], guard := none }) (v := .int .i64 ((s.fi * 16 : Nat) : Int)) rfl (by kernel_rfl) (fun _ _ _ h => h) (Or.inl ⟨by rfl, fun W hW => ?_⟩) hS ?_
  · obtain ⟨hw1, hw2⟩ := hW; go_simp; (try go_bits); (try trivial); (try omega)
  (try simp only [Act.put, List.setIfInBounds_toArray, List.set_cons_succ, List.set_cons_zero])
  refine wpE_take (i := 9) (oi := { dst := some 33, op := Go.Op.convert 3 23 (Go.Operand.tmp 32), type := 23, pos := "ref.go:108", after := #[{ on := 8, ground := Go.Ground.data }], guard := none }) (v := .int .u64 ((s.fi * 16 : Nat) : Int)) rfl (by kernel_rfl) (fun _ _ _ h => h) (Or.inl ⟨by rfl, fun W hW => ?_⟩) hS ?_
  · obtain ⟨hw1, hw2⟩ := hW; go_simp; (try go_bits); (try trivial)
  (try simp only [Act.put, List.setIfInBounds_toArray, List.set_cons_succ, List.set_cons_zero])
  refine wpE_take (i := 10) (oi := { dst := some 34, op := Go.Op.binOp Go.BinOp.add 23 (Go.Operand.tmp 27) (Go.Operand.tmp 33) 23, type := 23, pos := "ref.go:108", after := #[{ on := 3, ground := Go.Ground.data }, { on := 9, ground := Go.Ground.data }], guard := none }) (v := .int .u64 (A : Int)) rfl (by kernel_rfl) (fun _ _ _ h => h) (Or.inl ⟨by rfl, fun W hW => ?_⟩) hS ?_
  · obtain ⟨hw1, hw2⟩ := hW; have hq := HAE.out; rw [hq]; go_simp; (try go_bits); (try rw [IntWalk.u64_in _ (by omega)]); (try trivial)
  (try simp only [Act.put, List.setIfInBounds_toArray, List.set_cons_succ, List.set_cons_zero])
  refine wpE_last (oi := { dst := some 4, op := Go.Op.assign (Go.Operand.tmp 34), type := 23, pos := "ref.go:108", after := #[{ on := 10, ground := Go.Ground.data }, { on := 0, ground := Go.Ground.phase }, { on := 1, ground := Go.Ground.phase }, { on := 2, ground := Go.Ground.phase }, { on := 3, ground := Go.Ground.phase }, { on := 4, ground := Go.Ground.phase }, { on := 5, ground := Go.Ground.phase }, { on := 6, ground := Go.Ground.phase }, { on := 7, ground := Go.Ground.phase }, { on := 8, ground := Go.Ground.phase }, { on := 9, ground := Go.Ground.phase }, { on := 10, ground := Go.Ground.phase }], guard := none }) rfl (by kernel_rfl) (by kernel_rfl) (by rfl) (fun K hK => ?_)
  go_simp; (try go_bits); refine hK _ _ ?_; clear hK K
  clear hS c0 c1 c2 c3 c4 c5 c6 HAE
  generalize hxr : w.heap.size = xr at *
  generalize (w.alloc (.cells #[.int .i64 0, .int .i64 0, .int .u64 0] 57)).drew = w1 at *
  obtain ⟨d0, _, _, _, d4, d5, _, dl⟩ := HN.out.2.1.cells
  have z4 := HN.out.2.1.froz 13
  have z5 := HN.out.2.1.froz 14
  go_wp2_with fail
  ((with_reducible refine HR1.out.mono ?_); rintro e wz ⟨rfl, rfl⟩)
  clear HR1
  go_wp2_with fail
  ((with_reducible refine HR2.out.mono ?_); rintro e wz ⟨rfl, rfl⟩)
  clear HR2
  go_wp2_with fail
  ((with_reducible refine HR3.out.mono ?_); rintro e wz ⟨rfl, rfl⟩)
  clear HR3
  have y0 := HN.out.2.2.2.1.cell 0
  have y1 := HN.out.2.2.2.1.cell 1
  have y2 := HN.out.2.2.2.1.cell 2
  simp only [List.getElem?_toArray, List.getElem?_cons_zero, List.getElem?_cons_succ] at y0 y1 y2
  have t0 := HN.out.2.2.2.1.frozen 0
  have t1 := HN.out.2.2.2.1.frozen 1
  have t2' := HN.out.2.2.2.1.frozen 2
  have hlr := HN.out.2.2.2.1.lt
  have hne : q ≠ xr := by omega
  have hne' : xr ≠ q := by omega
  obtain ⟨r1, h1⟩ := HN.out.2.1.put (s' := { s with fi := (s.fi + 1) % 256 }) hcd 13 (.int .i64 (((s.fi : Int) + 1) % 256)) (fun v => by rw [show ((s.fi : Int) + 1) % 256 = (((s.fi + 1) % 256 : Nat) : Int) from by omega]; rfl)
  obtain ⟨r2, h2⟩ := h1.put (s' := { s with fi := (s.fi + 1) % 256, un := s.un - 1 }) hcd 14 (.int .i64 ((s.un : Int) - 1)) (fun v => by rw [show (s.un : Int) - 1 = ((s.un - 1 : Nat) : Int) from by omega]; rfl)
  rw [← HN.out.2.2.2.2.2] at h2
  have r12 := r1.trans r2
  obtain ⟨k1, k2⟩ := r12.blk HN.out.2.2.2.1 HN.out.2.2.2.2.1 (by omega)
  have HE := Lib.hid (And.intro ((HN.out.1.mono (C' := (· = c)) (fun _ h => h.elim)).trans r12) (And.intro h2 (And.intro (HN.out.2.2.1.step r12 (fun e => hcm.1 e.symm)) (And.intro k1 k2))))
  clear r1 r2 h1 h2 r12 k1 k2 HN
  go_wp2
  refine bodyPost_ret (results_cell_tmp_row rfl _ _ xr 57 #[.int .i64 x1, .int .i64 x2, .int .u64 x3] _ rfl (((HE.out.2.2.2.1.set_ 0 (.int .i64 x1)).set_ 1 (.int .i64 x2)).set_ 2 (.int .u64 x3)) Tryz.underlying57 rfl (by kernel_rfl)) rfl ?_
  have hx := HE.out.2.2.2.2
  have hst : ∀ wq : World, Step (· = c + cm + d + 1) (ext own w (c + cm + d + 1)) wq (ext own w (c + cm + d + 1)) (((wq.setCell ⟨xr, 0, none⟩ (.int .i64 x1)).setCell ⟨xr, 1, none⟩ (.int .i64 x2)).setCell ⟨xr, 2, none⟩ (.int .u64 x3)) := fun wq =>
    ⟨(((Upd.refl _ _).setCell (p := ⟨xr, 0, none⟩) (.inl hx) (.int .i64 x1)).setCell (p := ⟨xr, 1, none⟩) (.inl hx) (.int .i64 x2)).setCell (p := ⟨xr, 2, none⟩) (.inl hx) (.int .u64 x3), fun _ _ => rfl⟩
  have hup : ∀ wq : World, Upd (· = xr) wq (((wq.setCell ⟨xr, 0, none⟩ (.int .i64 x1)).setCell ⟨xr, 1, none⟩ (.int .i64 x2)).setCell ⟨xr, 2, none⟩ (.int .u64 x3)) := fun wq =>
    ((Upd.refl (· = xr) wq).setCell (p := ⟨xr, 0, none⟩) (.inl rfl) (.int .i64 x1)).setCell (p := ⟨xr, 1, none⟩) (.inl rfl) (.int .i64 x2) |>.setCell (p := ⟨xr, 2, none⟩) (.inl rfl) (.int .u64 x3)
  exact ⟨rfl, _, ⟨HE.out.1.upd.trans' (hup _) (fun i hi e => by omega), HE.out.1.old⟩, HE.out.2.1.step (hst _) (by omega) (by omega), HE.out.2.2.1.step (hst _) (by omega)⟩
end
end Go.Proofs.YtonhlgfgbdiapaaGreat

/- The document's TLB: Look, FlushPage, Evict. -/
namespace Go.Proofs.YtonhlgfgbdiapaaGreat
set_option linter.unusedVariables false
set_option linter.unusedSimpArgs false
open Go.RowKit
set_option maxRecDepth 100000

section
variable {own own' : Nat → Nat} {c d p room : Nat} {w w' : World} {l : List Tr}
set_option maxHeartbeats 4000000 in
theorem tref_Look (h : TrefAt own c d w p room l) (v pg : Int) :
    Calls Tryz.prog 107 #[.pointer (some ⟨p, 0, none⟩), .int .i64 v, .int .u64 pg] w fun e w' =>
      e = .returned (.tuple #[.agg #[.int .i64 ((lookT l v pg).getD tr0).v, .int .u64 ((lookT l v pg).getD tr0).p, .int .u64 ((lookT l v pg).getD tr0).f, .int .i64 ((lookT l v pg).getD tr0).r], .bool (lookT l v pg).isSome]) ∧ Upd (fun _ => False) w w' := by
  obtain ⟨⟨v1, hb, ho, hR⟩, h1, h2, h3⟩ := h
  have c1 : (w.alloc (.cells #[.int .i64 0, .int .u64 0, .int .u64 0, .int .i64 0] 153)).cell? ⟨p, 1, none⟩ = some v1 := (hb.alloc _).cell 1
  have hlt : p < (w.alloc (.cells #[.int .i64 0, .int .u64 0, .int .u64 0, .int .i64 0] 153)).heap.size := (hb.alloc _).lt
  have hst := step_allocS own w (.cells #[.int .i64 0, .int .u64 0, .int .u64 0, .int .i64 0] 153)
  obtain ⟨A, cap, rfl, hcap, hform⟩ := (hR.step hst (fun h => h)).form
  have HR := Lib.hid hform
  have hB := Blk.new w 153 #[.int .i64 0, .int .u64 0, .int .u64 0, .int .i64 0]
  have hU := (Upd.refl (fun _ => False) w).alloc (.cells #[.int .i64 0, .int .u64 0, .int .u64 0, .int .i64 0] 153)
  have hlen : l.length ≤ 64 := by omega
  have H0 := Lib.hid (And.intro hB hU)
  clear hb ho hR h1 h2 h3 hform hB hU hst
  go_enter Tryz.func107, Tryz.ntmps107
  go_wp2
  generalize hrb : w.heap.size = rb at *
  generalize (w.alloc (.cells #[.int .i64 0, .int .u64 0, .int .u64 0, .int .i64 0] 153)) = wq at *
  go_loopw [8] (fun i wr => ∃ (k : Nat), k ≤ l.length ∧ i = .int .i64 (k : Int) ∧ lookT (l.take k) v pg = none ∧ wr = wq) (fun i _ => l.length - (intOf i).toNat)
  case atStart => exact ⟨0, by omega, rfl, rfl, rfl⟩
  case round =>
    obtain ⟨k, hk, rfl, hn, rfl⟩ := hrel
    have z0 := H0.out.1.frozen 0
    have z1 := H0.out.1.frozen 1
    have z2 := H0.out.1.frozen 2
    have z3 := H0.out.1.frozen 3
    have x0 := H0.out.1.cell 0
    have x1 := H0.out.1.cell 1
    have x2 := H0.out.1.cell 2
    have x3 := H0.out.1.cell 3
    simp only [List.getElem?_toArray, List.getElem?_cons_zero, List.getElem?_cons_succ] at x0 x1 x2 x3
    have hlr := H0.out.1.lt
    by_cases hlt : k < l.length
    · obtain ⟨g, o, rfl, hg, hgl, _, hc⟩ := HR.out (by omega)
      have hget : l[k]? = some l[k] := List.getElem?_eq_getElem hlt
      obtain ⟨q0, q1, q2, q3⟩ := trsC_at l k _ hget
      have c0 := hc _ _ q0
      have c1 := hc _ _ q1
      have c2 := hc _ _ q2
      have c3 := hc _ _ q3
      simp only [← Nat.add_assoc] at c1 c2 c3
      obtain ⟨⟨xv, xp, xf, xr⟩, hx⟩ : ∃ x, l[k] = x := ⟨_, rfl⟩
      rw [hx] at hget c0 c1 c2 c3
      have hlt' : (k : Int) < (l.length : Int) := by omega
      have HN := Lib.hid (And.intro hn hget)
      clear hn hget q0 q1 q2 q3 hc hx
      by_cases hm : xv = v
      · subst hm
        by_cases hp : xp = pg
        · subst hp
          have HF := Lib.hid (look_found HN.out.1 HN.out.2 (by simp))
          go_wp2
          refine bodyPost_ret (results_cell_tmp_row rfl _ _ rb 153 #[.int .i64 xv, .int .u64 xp, .int .u64 xf, .int .i64 xr] _ rfl ((((H0.out.1.set_ 0 (.int .i64 xv)).set_ 1 (.int .u64 xp)).set_ 2 (.int .u64 xf)).set_ 3 (.int .i64 xr)) Tryz.underlying153 rfl (by kernel_rfl)) rfl ?_
          rw [HF.out]
          exact ⟨rfl, H0.out.2.setCell (p := ⟨rb, 0, none⟩) (.inr (Nat.le_of_eq hrb)) _ |>.setCell (p := ⟨rb, 1, none⟩) (.inr (Nat.le_of_eq hrb)) _ |>.setCell (p := ⟨rb, 2, none⟩) (.inr (Nat.le_of_eq hrb)) _ |>.setCell (p := ⟨rb, 3, none⟩) (.inr (Nat.le_of_eq hrb)) _⟩
        · have hpd : (xp == pg) = false := by simpa using hp
          have HX := Lib.hid (look_next HN.out.1 HN.out.2 (by simp [hpd]))
          go_wp2
          exact ⟨⟨k + 1, by omega, by go_num, HX.out, by first | trivial | rfl⟩, by simp [intOf]; omega⟩
      · have hmd : (xv == v) = false := by simpa using hm
        have HX := Lib.hid (look_next HN.out.1 HN.out.2 (by simp [hmd]))
        go_wp2
        exact ⟨⟨k + 1, by omega, by go_num, HX.out, by first | trivial | rfl⟩, by simp [intOf]; omega⟩
    · obtain rfl : k = l.length := by omega
      rw [List.take_length] at hn
      have HN := Lib.hid hn
      clear hn
      go_wp2
      refine bodyPost_ret (results_cell_tmp_row rfl _ _ rb 153 #[.int .i64 0, .int .u64 0, .int .u64 0, .int .i64 0] _ rfl (((H0.out.1.set_ 0 (.int .i64 0)).set_ 1 (.int .u64 0)).set_ 2 (.int .u64 0) |>.set_ 3 (.int .i64 0)) Tryz.underlying153 rfl (by kernel_rfl)) rfl ?_
      rw [HN.out]
      exact ⟨rfl, H0.out.2.setCell (p := ⟨rb, 0, none⟩) (.inr (Nat.le_of_eq hrb)) _ |>.setCell (p := ⟨rb, 1, none⟩) (.inr (Nat.le_of_eq hrb)) _ |>.setCell (p := ⟨rb, 2, none⟩) (.inr (Nat.le_of_eq hrb)) _ |>.setCell (p := ⟨rb, 3, none⟩) (.inr (Nat.le_of_eq hrb)) _⟩
theorem tref_FlushPage (h : TrefAt own c d w p room l) (hcd : c ≠ d) (v pg : Int) :
    Calls Tryz.prog 91 #[.pointer (some ⟨p, 0, none⟩), .int .i64 v, .int .u64 pg] w fun e w' => e = .returned (.tuple #[]) ∧ ∃ own', Step (· = c) own w own' w' ∧ TrefAt own' c d w' p room (flushP l v pg) := by
  have hD := tref_drop h hcd v true pg
  rw [dropT_one] at hD
  have HD := Lib.hid hD
  clear hD h
  go_enter Tryz.func91, Tryz.ntmps91
  go_wp2_with fail
  ((with_reducible refine HD.out.mono ?_); rintro e w1 ⟨rfl, h1⟩)
  have H1 := Lib.hid h1
  clear h1 HD
  go_wp2
  go_end0
  exact ⟨rfl, H1.out⟩
end
/-- one entry a page -/
def UniqT (l : List Tr) : Prop := l.Pairwise (fun x y => ¬ (x.v = y.v ∧ x.p = y.p))
theorem flushP_erase : ∀ {l : List Tr} {k : Nat} {t : Tr}, UniqT l → l[k]? = some t → flushP l t.v t.p = l.take k ++ l.drop (k + 1) := by
  intro l
  induction l with
  | nil => intro k t _ h; cases h
  | cons x l ih =>
    intro k t hu h
    obtain ⟨h1, h2⟩ := List.pairwise_cons.1 hu
    cases k with
    | zero =>
      simp at h
      subst h
      show (x :: l).filter _ = l
      rw [List.filter_cons, if_neg (by simp)]
      rw [List.filter_eq_self]
      intro y hy
      have := h1 y hy
      simp only [bne, Bool.or_eq_true, Bool.not_eq_true', beq_eq_false_iff_ne, ne_eq]
      by_cases e : y.v = x.v
      · right; intro e2; exact this ⟨e.symm, e2.symm⟩
      · exact .inl e
    | succ k =>
      have hk : l[k]? = some t := by simpa using h
      have hm : t ∈ l := List.mem_of_getElem? hk
      have hne := h1 t hm
      show (x :: l).filter _ = _
      rw [List.filter_cons, if_pos (by
        simp only [bne, Bool.or_eq_true, Bool.not_eq_true', beq_eq_false_iff_ne, ne_eq]
        by_cases e : x.v = t.v
        · right; intro e2; exact hne ⟨e, e2⟩
        · exact .inl e)]
      have := ih h2 hk
      unfold flushP at this
      rw [this]; rfl
theorem UniqT.flushP {l : List Tr} (h : UniqT l) (v p : Int) : UniqT (flushP l v p) := h.sublist (List.filter_sublist)
theorem UniqT.flushT {l : List Tr} (h : UniqT l) (v : Int) : UniqT (flushT l v) := h.sublist (List.filter_sublist)
theorem UniqT.put {l : List Tr} (h : UniqT l) (room : Nat) (t : Tr) : UniqT (putT room l t) := by
  have hf := h.flushP t.v t.p
  have hn : ∀ x ∈ Go.Proofs.YtonhlgfgbdiapaaGreat.flushP l t.v t.p, ¬ (x.v = t.v ∧ x.p = t.p) := by
    intro x hx
    have := (List.mem_filter.1 hx).2
    simp only [bne, Bool.or_eq_true, Bool.not_eq_true', beq_eq_false_iff_ne, ne_eq] at this
    rintro ⟨e1, e2⟩
    rcases this with h | h
    · exact h e1
    · exact h e2
  unfold putT
  unfold UniqT
  rw [List.pairwise_append]
  refine ⟨?_, List.pairwise_singleton _ _, ?_⟩
  · split
    · exact hf.sublist (List.drop_sublist _ _)
    · exact hf
  · intro x hx y hy
    rw [List.mem_singleton.1 hy]
    refine hn x ?_
    split at hx
    · exact List.mem_of_mem_drop hx
    · exact hx
theorem UniqT.evict {l : List Tr} (h : UniqT l) (i : Int) : UniqT (evictT l i) := by
  unfold evictT
  split
  · split
    · exact h.flushP _ _
    · exact h
  · exact h
end Go.Proofs.YtonhlgfgbdiapaaGreat

/- The document's TLB: Evict. -/
namespace Go.Proofs.YtonhlgfgbdiapaaGreat
set_option linter.unusedVariables false
set_option linter.unusedSimpArgs false
open Go.RowKit
set_option maxRecDepth 100000

theorem trsC_take (l : List Tr) (k : Nat) : trsC (l.take k) = (trsC l).take (k * 4) := by
  induction l generalizing k with
  | nil => simp [trsC]
  | cons x l ih =>
    cases k with
    | zero => simp [trsC]
    | succ k =>
      show trC x ++ trsC (l.take k) = (trC x ++ trsC l).take ((k + 1) * 4)
      have hl : (trC x).length = 4 := rfl
      rw [ih, List.take_append, hl, List.take_of_length_le (l := trC x) (by rw [hl]; omega), show (k + 1) * 4 - 4 = k * 4 from by omega]
theorem trsC_dropN (l : List Tr) (k : Nat) : trsC (l.drop k) = (trsC l).drop (k * 4) := by
  induction l generalizing k with
  | nil => simp [trsC]
  | cons x l ih =>
    cases k with
    | zero => simp
    | succ k =>
      show trsC (l.drop k) = (trC x ++ trsC l).drop ((k + 1) * 4)
      have hl : (trC x).length = 4 := rfl
      rw [ih, List.drop_append, hl, List.drop_of_length_le (l := trC x) (by rw [hl]; omega), show (k + 1) * 4 - 4 = k * 4 from by omega, List.nil_append]
theorem trsC_app (a b : List Tr) : trsC (a ++ b) = trsC a ++ trsC b := by simp [trsC]
section
variable {own own' : Nat → Nat} {c d p room : Nat} {w w' : World} {l : List Tr}
set_option maxHeartbeats 2000000 in
theorem tref_Evict (h : TrefAt own c d w p room l) (hcd : c ≠ d) (hu : UniqT l) (i : Int) :
    Calls Tryz.prog 93 #[.pointer (some ⟨p, 0, none⟩), .int .i64 i] w fun e w' => e = .returned (.bool (evictB l i)) ∧ ∃ own', Step (· = c) own w own' w' ∧ TrefAt own' c d w' p room (evictT l i) := by
  have HT := Lib.hid h
  obtain ⟨⟨v1, hb, ho, hR⟩, h1, h2, h3⟩ := h
  have c1 : w.cell? ⟨p, 1, none⟩ = some v1 := hb.cell 1
  have hlt := hb.lt
  obtain ⟨A, cap, rfl, hcap, hform⟩ := hR.form
  by_cases hi : 0 ≤ i
  · obtain ⟨k, rfl⟩ := Int.eq_ofNat_of_zero_le hi
    by_cases hk : k < l.length
    · rw [show evictB l (k : Int) = true from by unfold evictB; simp; omega]
      have hget : l[k]? = some l[k] := List.getElem?_eq_getElem hk
      rw [show evictT l (k : Int) = l.take k ++ l.drop (k + 1) from by unfold evictT; rw [if_pos (by omega), Int.toNat_natCast, hget]; exact flushP_erase hu hget]
      have hR1 : Rw 153 4 (up1 own w) (d + 1) w (.slice A l.length cap) l.length (trsC l) := by
        refine ⟨hR.1, ?_⟩
        rcases hR.2 with hn | ⟨g, o, cap, cur, hv, ho, hb, r⟩
        · exact .inl hn
        · exact .inr ⟨g, o, cap, cur, hv, by rw [up1_old hb.lt, ho], hb, r⟩
      obtain ⟨g, o, rfl, hg, hgl, hgz, hc⟩ := hform (by omega)
      obtain ⟨_, hn | ⟨g', o', cap', cur, hv', ho', hbk, hnc, hcm, hcs, htk⟩⟩ := hR1
      · cases hn.1
      cases hv'
      have hcut : ∀ (wx : World), (∀ j u, (trsC l)[j]? = some u → wx.cell? ⟨g, o + j, none⟩ = some u) → g < wx.heap.size → ∀ a n, a + n ≤ l.length → Reads wx wx.heap.size 4 (some ⟨g, o + a * 4, none⟩) n (trsC ((l.drop a).take n)) := by
        intro wx hwx hgx a n han
        refine ⟨by rw [trsC_len, List.length_take, List.length_drop]; omega, fun _ => ⟨_, rfl, hgx, fun j u hj => ?_⟩⟩
        rw [show (⟨g, o + a * 4, none⟩ : Addr).add j = ⟨g, o + (a * 4 + j), none⟩ from by unfold Addr.add; split <;> simp_all <;> omega]
        refine hwx _ u ?_
        have hjl : j < n * 4 := by have := (List.getElem?_eq_some_iff.1 hj).1; rw [trsC_len, List.length_take, List.length_drop] at this; omega
        rw [trsC_take, trsC_dropN, List.getElem?_take, if_pos hjl, List.getElem?_drop] at hj
        exact hj
      have hrd1 : Reads w w.heap.size 4 (some ⟨g, o, none⟩) k (trsC (l.take k)) := by have := hcut w hc hgl 0 k (by omega); simpa using this
      obtain ⟨i, z, hi', hz, hs, hby, hzs⟩ := trans_parts
      have HI := Lib.hid (And.intro hi' (And.intro hz (And.intro hs (And.intro hby hzs))))
      have HR := Lib.hid (And.intro hrd1 (And.intro (And.intro hc hgl) hcut))
      have HB := Lib.hid (And.intro hb (And.intro ho hbk))
      have HO := Lib.hid ho'
      have hk' : (k : Int) < (l.length : Int) := by omega
      have hkc : (k : Int) ≤ (cap : Int) := by omega
      have hk64 : l.length ≤ 64 := by omega
      have z1 := hb.frozen 1
      clear hb ho hR h1 h2 h3 hform hget hbk ho' hcs htk hrd1 hcut hc hi' hz hs hby hzs hcm
      go_enter Tryz.func93, Tryz.ntmps93
      go_wp2_with ((with_reducible show wpList _ _ _ ((⟨some 24, _, _, _, _, _⟩ : Oper) :: _) _ _); refine wpList_append_rw rfl (.tmp 17) (.tmp 23) _ rfl 153 i _ 4 32 Tryz.underlying79 HI.out.1 HI.out.2.1 HI.out.2.2.1 HI.out.2.2.2.1 HI.out.2.2.2.2 (by omega) (own := up1 own w) (d := 0) (.slice none 0 0) 0 [] rfl (Rw.nil _ _ _ _ _) w.heap.size (some ⟨g, o, none⟩) k cap (trsC (l.take k)) rfl HR.out.1 trsC_cell (by unfold maxLen; omega) (by omega) ?_)
      intro v2 w5 hst5 hrow5
      have c5 := (hst5.upd.cell (p := ⟨p, 1, none⟩) hlt (by show ¬ up1 own w p = 0; rw [up1_old hlt]; omega)).trans c1
      have z5 := (hst5.upd.frozen' (p := ⟨p, 1, none⟩) hlt (by show ¬ up1 own w p = 0; rw [up1_old hlt]; omega)).trans z1
      have hlt5 : p < w5.heap.size := Nat.lt_of_lt_of_le hlt hst5.upd.size
      have hgl5 : g < w5.heap.size := Nat.lt_of_lt_of_le hgl hst5.upd.size
      have hc5 : ∀ j u, (trsC l)[j]? = some u → w5.cell? ⟨g, o + j, none⟩ = some u := fun j u hu => (hst5.upd.cell (p := ⟨g, o + j, none⟩) hgl (by show ¬ up1 own w g = 0; rw [HO.out]; omega)).trans (HR.out.2.1.1 j u hu)
      have hrd2 := HR.out.2.2 w5 hc5 hgl5 (k + 1) (l.length - (k + 1)) (by omega)
      rw [List.take_of_length_le (by rw [List.length_drop]; omega)] at hrd2
      have H5 := Lib.hid (And.intro hst5 (And.intro hrow5 hrd2))
      obtain ⟨A5, cap5, rfl, _⟩ := hrow5.form
      clear hst5 hrow5 hrd2 hc5 c1 z1
      by_cases hce : cap = k + 1
      · subst hce
        have hl1 : l.length = k + 1 := by omega
        go_wp2_with ((with_reducible show wpList _ _ _ ((⟨some 34, _, _, _, _, _⟩ : Oper) :: _) _ _); refine wpList_append_rw rfl (.tmp 26) (.tmp 33) _ rfl 153 i _ 4 32 Tryz.underlying79 HI.out.1 HI.out.2.1 HI.out.2.2.1 HI.out.2.2.2.1 HI.out.2.2.2.2 (by omega) (own := ext (up1 own w) w 0) (d := 0) _ _ _ rfl H5.out.2.1 w5.heap.size (some ⟨g, o, none⟩) 0 0 (trsC (l.drop (k + 1))) rfl (show Reads w5 w5.heap.size 4 (some ⟨g, o, none⟩) 0 (trsC (l.drop (k + 1))) from ⟨by rw [List.drop_eq_nil_of_le (by omega)]; rfl, fun h => absurd h (by decide)⟩) trsC_cell (by unfold maxLen; omega) (by omega) ?_)
        intro v3 w6 hst6 hrow6
        have hU6 := H5.out.1.trans hst6
        have hup := up1_upd hU6
        have hrw := up1_row hU6 hrow6 d
        rw [← trsC_app] at hrw
        rw [show Rw 153 4 (ext own w d) d w6 v3 k (trsC (l.take k ++ l.drop (k + 1))) = Rw 153 4 (ext own w d) d w6 v3 (l.take k ++ l.drop (k + 1)).length (trsC (l.take k ++ l.drop (k + 1))) from by congr 1; rw [List.length_append, List.length_take, List.length_drop]; omega] at hrw
        --(l.take k ++ l.drop (k + 1)).length from by rw [List.length_append, List.length_take, List.length_drop]; omega] at hrw
        have c6 := (hst6.upd.cell (p := ⟨p, 1, none⟩) hlt5 (by show ¬ ext (up1 own w) w 0 p = 0; rw [ext_old _ _ _ hlt, up1_old hlt]; omega)).trans c5
        have z6 := (hst6.upd.frozen' (p := ⟨p, 1, none⟩) hlt5 (by show ¬ ext (up1 own w) w 0 p = 0; rw [ext_old _ _ _ hlt, up1_old hlt]; omega)).trans z5
        have hlt6 : p < w6.heap.size := Nat.lt_of_lt_of_le hlt5 hst6.upd.size
        have H6 := Lib.hid (HT.out.lay hcd hup hrw (by rw [List.length_append, List.length_take, List.length_drop]; omega))
        obtain ⟨A6, cap6, rfl, _⟩ := hrow6.form
        clear hst6 hrow6 hU6 hup hrw c5 z5
        go_wp2
        go_ret
        exact ⟨rfl, _, H6.out⟩
      · have hce2 : ((cap : Int) - ((k : Int) + 1) == 0) = false := by simp; omega
        have hce3 : 1 ≤ cap - (k + 1) := by omega
        go_wp2_with ((with_reducible show wpList _ _ _ ((⟨some 34, _, _, _, _, _⟩ : Oper) :: _) _ _); refine wpList_append_rw rfl (.tmp 26) (.tmp 33) _ rfl 153 i _ 4 32 Tryz.underlying79 HI.out.1 HI.out.2.1 HI.out.2.2.1 HI.out.2.2.2.1 HI.out.2.2.2.2 (by omega) (own := ext (up1 own w) w 0) (d := 0) _ _ _ rfl H5.out.2.1 w5.heap.size (some ⟨g, o + (k + 1) * 4, none⟩) (l.length - (k + 1)) (cap - (k + 1)) (trsC (l.drop (k + 1))) rfl H5.out.2.2 trsC_cell (by unfold maxLen; omega) (by omega) ?_)
        intro v3 w6 hst6 hrow6
        have hU6 := H5.out.1.trans hst6
        have hup := up1_upd hU6
        have hrw := up1_row hU6 hrow6 d
        rw [← trsC_app, show k + (l.length - (k + 1)) = (l.take k ++ l.drop (k + 1)).length from by rw [List.length_append, List.length_take, List.length_drop]; omega] at hrw
        have c6 := (hst6.upd.cell (p := ⟨p, 1, none⟩) hlt5 (by show ¬ ext (up1 own w) w 0 p = 0; rw [ext_old _ _ _ hlt, up1_old hlt]; omega)).trans c5
        have z6 := (hst6.upd.frozen' (p := ⟨p, 1, none⟩) hlt5 (by show ¬ ext (up1 own w) w 0 p = 0; rw [ext_old _ _ _ hlt, up1_old hlt]; omega)).trans z5
        have hlt6 : p < w6.heap.size := Nat.lt_of_lt_of_le hlt5 hst6.upd.size
        have H6 := Lib.hid (HT.out.lay hcd hup hrw (by rw [List.length_append, List.length_take, List.length_drop]; omega))
        obtain ⟨A6, cap6, rfl, _⟩ := hrow6.form
        clear hst6 hrow6 hU6 hup hrw c5 z5
        go_wp2
        go_ret
        exact ⟨rfl, _, H6.out⟩
    · rw [show evictB l (k : Int) = false from by unfold evictB; simp; omega]
      rw [show evictT l (k : Int) = l from by unfold evictT; rw [if_pos (by omega), Int.toNat_natCast, List.getElem?_eq_none (by omega)]]
      have hk' : (l.length : Int) ≤ (k : Int) := by omega
      clear hb ho hR h1 h2 h3 hform
      go_enter Tryz.func93, Tryz.ntmps93
      go_wp2
      go_ret
      exact ⟨rfl, own, Step.refl _ _ _, HT.out⟩
  · rw [show evictB l i = false from by unfold evictB; simp; omega]
    rw [show evictT l i = l from by unfold evictT; rw [if_neg hi]]
    have hi' : i < 0 := by omega
    clear hb ho hR h1 h2 h3 hform
    go_enter Tryz.func93, Tryz.ntmps93
    go_wp2
    go_ret
    exact ⟨rfl, own, Step.refl _ _ _, HT.out⟩
end
end Go.Proofs.YtonhlgfgbdiapaaGreat

/- The document's page tables (citadelref04): wrong, number, misplaced, lets, put. -/
namespace Go.Proofs.YtonhlgfgbdiapaaGreat
set_option linter.unusedVariables false
set_option linter.unusedSimpArgs false
open Go.RowKit
set_option maxRecDepth 100000

theorem bandN (e k : Nat) (he : e < 18446744073709551616) (hk : k < 18446744073709551616) {v : Bool} (hv : (e &&& k == 0) = v) : (bits .and .u64 (e : Int) (k : Int) == 0) = v ∧ (bits .and .u64 (e : Int) (k : Int) != 0) = !v := by
  rw [u64_and_nat _ _ he hk]
  have : (((e &&& k : Nat) : Int) == 0) = (e &&& k == 0) := by
    rw [Bool.eq_iff_iff, beq_iff_eq, beq_iff_eq]; omega
  exact ⟨by rw [this, hv], by unfold bne; rw [this, hv]⟩
theorem low8 (e k : Nat) (hk : 255 &&& k = k) : e &&& k = (e % 256) &&& k := by
  rw [show e % 256 = e &&& 255 from (Nat.and_two_pow_sub_one_eq_mod e 8).symm, Nat.and_assoc, hk]
theorem badE_eq (e : Nat) : badE e = ((e % 2 == 0) || (!(e &&& 4 == 0) && (e &&& 2 == 0)) || !(e / 18014398509481984 == 0)) := by
  have key : ∀ q : Nat, q < 256 → ((q &&& 1 == 0) || (q &&& 6 == 4)) = ((q % 2 == 0) || (!(q &&& 4 == 0) && (q &&& 2 == 0))) := by decide +kernel
  have := key (e % 256) (Nat.mod_lt _ (by decide))
  rw [← low8 e 1 (by decide), ← low8 e 6 (by decide), ← low8 e 4 (by decide), ← low8 e 2 (by decide), show e % 256 % 2 = e % 2 from by omega] at this
  unfold badE
  rw [this]
  rfl
theorem letE_eq (e acc : Nat) (ha : acc = 1 ∨ acc = 2 ∨ acc = 3) : letE e acc = (!(e &&& 16 == 0) && !(e &&& 64 == 0) && (if acc = 1 then !(e &&& 8 == 0) else if acc = 2 then !(e &&& 2 == 0) else !(e &&& 4 == 0) && !(e &&& 128 == 0))) := by
  have key : ∀ q : Nat, q < 256 → ∀ acc ∈ ([1, 2, 3] : List Nat), (q &&& wantN acc == wantN acc) = (!(q &&& 16 == 0) && !(q &&& 64 == 0) && (if acc = 1 then !(q &&& 8 == 0) else if acc = 2 then !(q &&& 2 == 0) else !(q &&& 4 == 0) && !(q &&& 128 == 0))) := by decide +kernel
  have := key (e % 256) (Nat.mod_lt _ (by decide)) acc (by simp; omega)
  rw [← low8 e 16 (by decide), ← low8 e 64 (by decide), ← low8 e 8 (by decide), ← low8 e 2 (by decide), ← low8 e 4 (by decide), ← low8 e 128 (by decide)] at this
  unfold letE
  rw [← this]
  rcases ha with rfl | rfl | rfl
  · rw [low8 e (wantN 1) (by decide)]
  · rw [low8 e (wantN 2) (by decide)]
  · rw [low8 e (wantN 3) (by decide)]
theorem permE_eq (e : Nat) : permE e = if !(e &&& 4 == 0) && !(e &&& 128 == 0) then (e &&& 10) ||| 4 else e &&& 10 := by
  have key : ∀ q : Nat, q < 256 → (if q &&& 128 = 128 then q &&& 14 else q &&& 10) = (if !(q &&& 4 == 0) && !(q &&& 128 == 0) then (q &&& 10) ||| 4 else q &&& 10) := by decide +kernel
  have := key (e % 256) (Nat.mod_lt _ (by decide))
  rw [← low8 e 128 (by decide), ← low8 e 14 (by decide), ← low8 e 10 (by decide), ← low8 e 4 (by decide)] at this
  unfold permE
  exact this
theorem rg_wrong (e : Nat) (he : e < 18446744073709551616) (w : World) : Calls Tryz.prog 124 #[.int .u64 (e : Int)] w fun r w' => r = .returned (.bool (badE e)) ∧ w = w' := by
  rw [badE_eq]
  obtain ⟨v4, hv4⟩ : ∃ v, (e &&& 4 == 0) = v := ⟨_, rfl⟩
  obtain ⟨v2, hv2⟩ : ∃ v, (e &&& 2 == 0) = v := ⟨_, rfl⟩
  obtain ⟨e4, f4⟩ := bandN e 4 he (by decide) hv4
  obtain ⟨e2, f2⟩ := bandN e 2 he (by decide) hv2
  rw [show ((4 : Nat) : Int) = 4 from rfl] at e4 f4
  rw [show ((2 : Nat) : Int) = 2 from rfl] at e2 f2
  rw [hv4, hv2]
  clear hv4 hv2
  by_cases h1 : e % 2 = 0
  · have h1d : (e : Int) % 2 = 0 := by omega
    rw [show (e % 2 == 0) = true from by simpa using h1]
    go_enter Tryz.func124, Tryz.ntmps124
    go_wp2
    go_ret
    exact ⟨rfl, rfl⟩
  · have h1d : ((e : Int) % 2 == 0) = false := by simp; omega
    rw [show (e % 2 == 0) = false from by simpa using h1]
    by_cases h3 : e / 18014398509481984 = 0
    · have h3d : (e : Int) / 18014398509481984 = 0 := by omega
      rw [show (e / 18014398509481984 == 0) = true from by simpa using h3]
      cases v4 <;> cases v2
      all_goals
        simp only [Bool.not_false, Bool.not_true] at f4 f2
        go_enter Tryz.func124, Tryz.ntmps124
        go_wp2
        go_ret
        exact ⟨rfl, rfl⟩
    · have h3d : ((e : Int) / 18014398509481984 == 0) = false := by simp; omega
      have h3n : ((e : Int) / 18014398509481984 != 0) = true := by simp; omega
      rw [show (e / 18014398509481984 == 0) = false from by simpa using h3]
      cases v4 <;> cases v2
      all_goals
        simp only [Bool.not_false, Bool.not_true] at f4 f2
        go_enter Tryz.func124, Tryz.ntmps124
        go_wp2
        go_ret
        exact ⟨rfl, rfl⟩
theorem rg_number (e : Nat) (he : e < 18446744073709551616) (w : World) : Calls Tryz.prog 125 #[.int .u64 (e : Int)] w fun r w' => r = .returned (.int .u64 (nxtE e : Int)) ∧ w = w' := by
  have hn := nxt_g e he
  go_enter Tryz.func125, Tryz.ntmps125
  go_wp2
  go_ret
  exact ⟨rfl, rfl⟩
theorem misE_eq (e lev : Nat) (hl : lev ≤ 2) : misE e lev = !(nxtE e % 2 ^ (9 * lev) == 0) := by
  unfold misE nxtE
  rw [show (17592186044416 : Nat) = 2 ^ (9 * lev) * 2 ^ (44 - 9 * lev) from by rw [← Nat.pow_add, show 9 * lev + (44 - 9 * lev) = 44 from by omega], Nat.mod_mul_right_mod]
  rfl
theorem rg_misplaced (e lev : Nat) (he : e < 18446744073709551616) (hl : lev ≤ 2) (w : World) : Calls Tryz.prog 126 #[.int .u64 (e : Int), .int .i64 (lev : Int)] w fun r w' => r = .returned (.bool (misE e lev)) ∧ w = w' := by
  have HN := Lib.hid (rg_number e he w)
  rw [misE_eq e lev hl]
  have hlt := nxt_lt e
  generalize nxtE e = N at *
  rcases (show lev = 0 ∨ lev = 1 ∨ lev = 2 by omega) with rfl | rfl | rfl
  · rw [show ((0 : Nat) : Int) = 0 from rfl, show (2 : Nat) ^ (9 * 0) = 1 from rfl, Nat.mod_one]
    have hq : (N : Int) % 1 = 0 := by omega
    go_enter Tryz.func126, Tryz.ntmps126
    go_wp2_with fail
    ((with_reducible refine HN.out.mono ?_); rintro e wz ⟨rfl, rfl⟩)
    go_wp2
    go_ret
    exact ⟨rfl, rfl⟩
  · rw [show ((1 : Nat) : Int) = 1 from rfl, show (2 : Nat) ^ (9 * 1) = 512 from rfl]
    obtain ⟨q, hq⟩ : ∃ q : Nat, N % 512 = q := ⟨_, rfl⟩
    have hq2 : (N : Int) % 512 = (q : Int) := by omega
    rw [hq]
    have hb : ((q : Int) != 0) = !(q == 0) := by rw [Bool.eq_iff_iff]; simp
    go_enter Tryz.func126, Tryz.ntmps126
    go_wp2_with fail
    ((with_reducible refine HN.out.mono ?_); rintro e wz ⟨rfl, rfl⟩)
    go_wp2
    go_ret
    exact ⟨by first | rfl | (simp), rfl⟩
  · rw [show ((2 : Nat) : Int) = 2 from rfl, show (2 : Nat) ^ (9 * 2) = 262144 from rfl]
    obtain ⟨q, hq⟩ : ∃ q : Nat, N % 262144 = q := ⟨_, rfl⟩
    have hq2 : (N : Int) % 262144 = (q : Int) := by omega
    rw [hq]
    have hb : ((q : Int) != 0) = !(q == 0) := by rw [Bool.eq_iff_iff]; simp
    go_enter Tryz.func126, Tryz.ntmps126
    go_wp2_with fail
    ((with_reducible refine HN.out.mono ?_); rintro e wz ⟨rfl, rfl⟩)
    go_wp2
    go_ret
    exact ⟨by first | rfl | (simp), rfl⟩
end Go.Proofs.YtonhlgfgbdiapaaGreat

/- The document's page tables: lets, put, Guest. -/
namespace Go.Proofs.YtonhlgfgbdiapaaGreat
set_option linter.unusedVariables false
set_option linter.unusedSimpArgs false
open Go.RowKit
set_option maxRecDepth 100000

theorem rg_lets (e acc : Nat) (he : e < 18446744073709551616) (hacc : acc = 2 ∨ acc = 3) (w : World) : Calls Tryz.prog 127 #[.int .u64 (e : Int), .int .i64 (acc : Int)] w fun r w' => r = .returned (.bool (letE e acc)) ∧ w = w' := by
  rw [letE_eq e acc (by omega)]
  obtain ⟨v16, hv16⟩ : ∃ v, (e &&& 16 == 0) = v := ⟨_, rfl⟩
  obtain ⟨v64, hv64⟩ : ∃ v, (e &&& 64 == 0) = v := ⟨_, rfl⟩
  obtain ⟨v2, hv2⟩ : ∃ v, (e &&& 2 == 0) = v := ⟨_, rfl⟩
  obtain ⟨v4, hv4⟩ : ∃ v, (e &&& 4 == 0) = v := ⟨_, rfl⟩
  obtain ⟨v128, hv128⟩ : ∃ v, (e &&& 128 == 0) = v := ⟨_, rfl⟩
  obtain ⟨e16, f16⟩ := bandN e 16 he (by decide) hv16
  obtain ⟨e64, f64⟩ := bandN e 64 he (by decide) hv64
  obtain ⟨e2, f2⟩ := bandN e 2 he (by decide) hv2
  obtain ⟨e4, f4⟩ := bandN e 4 he (by decide) hv4
  obtain ⟨e128, f128⟩ := bandN e 128 he (by decide) hv128
  simp only [show ((16 : Nat) : Int) = 16 from rfl, show ((64 : Nat) : Int) = 64 from rfl, show ((2 : Nat) : Int) = 2 from rfl, show ((4 : Nat) : Int) = 4 from rfl, show ((128 : Nat) : Int) = 128 from rfl] at e16 f16 e64 f64 e2 f2 e4 f4 e128 f128
  rw [hv16, hv64, hv2, hv4, hv128]
  clear hv16 hv64 hv2 hv4 hv128
  rcases hacc with rfl | rfl
  · rw [show ((2 : Nat) : Int) = 2 from rfl]
    clear e4 f4 e128 f128
    cases v16
    · cases v64
      · cases v2
        all_goals
          simp only [Bool.not_false, Bool.not_true] at f16 f64 f2
          go_enter Tryz.func127, Tryz.ntmps127
          go_wp2
          go_ret
          exact ⟨rfl, rfl⟩
      · simp only [Bool.not_false, Bool.not_true] at f16 f64
        clear e2 f2
        go_enter Tryz.func127, Tryz.ntmps127
        go_wp2
        go_ret
        exact ⟨rfl, rfl⟩
    · simp only [Bool.not_true] at f16
      clear e2 f2 e64 f64
      go_enter Tryz.func127, Tryz.ntmps127
      go_wp2
      go_ret
      exact ⟨rfl, rfl⟩
  · rw [show ((3 : Nat) : Int) = 3 from rfl]
    clear e2 f2
    cases v16
    · cases v64
      · cases v4
        · cases v128
          all_goals
            simp only [Bool.not_false, Bool.not_true] at f16 f64 f4 f128
            go_enter Tryz.func127, Tryz.ntmps127
            go_wp2
            go_ret
            exact ⟨rfl, rfl⟩
        · simp only [Bool.not_false, Bool.not_true] at f16 f64 f4
          clear e128 f128
          go_enter Tryz.func127, Tryz.ntmps127
          go_wp2
          go_ret
          exact ⟨rfl, rfl⟩
      · simp only [Bool.not_false, Bool.not_true] at f16 f64
        clear e4 f4 e128 f128
        go_enter Tryz.func127, Tryz.ntmps127
        go_wp2
        go_ret
        exact ⟨rfl, rfl⟩
    · simp only [Bool.not_true] at f16
      clear e4 f4 e128 f128 e64 f64
      go_enter Tryz.func127, Tryz.ntmps127
      go_wp2
      go_ret
      exact ⟨rfl, rfl⟩
set_option maxHeartbeats 1000000 in
theorem rg_put (e lev a : Nat) (he : e < 18446744073709551616) (hl : lev ≤ 2) (ha : a < 549755813888) (w : World) : Calls Tryz.prog 128 #[.agg #[.int .u64 (e : Int), .int .i64 (lev : Int)], .int .u64 (a : Int)] w fun r w' => r = .returned (.int .u64 (plcE e lev a : Int)) ∧ Upd (fun _ => False) w w' := by
  have HN := Lib.hid (fun w => rg_number e he w)
  have hlt := nxt_lt e
  unfold plcE
  generalize nxtE e = N at *
  have hB := Blk.new w 204 #[.int .u64 (e : Int), .int .i64 (lev : Int)]
  have c0 := hB.cell 0
  have c1 := hB.cell 1
  simp only [List.getElem?_toArray, List.getElem?_cons_zero, List.getElem?_cons_succ] at c0 c1
  have HU := Lib.hid (Upd.drew ((Upd.refl (fun _ => False) w).alloc (.cells #[.int .u64 (e : Int), .int .i64 (lev : Int)] 204)))
  clear hB
  rcases (show lev = 0 ∨ lev = 1 ∨ lev = 2 by omega) with rfl | rfl | rfl
  · rw [show ((0 : Nat) : Int) = 0 from rfl] at c1 HU ⊢
    rw [show (2 : Nat) ^ (12 + 9 * 0) = 4096 from rfl]
    obtain ⟨r, hr⟩ : ∃ r : Nat, a % 4096 = r := ⟨_, rfl⟩
    have hr2 : (a : Int) % 4096 = (r : Int) := by omega
    have hrl : r < 549755813888 := by omega
    rw [hr]
    go_enter Tryz.func128, Tryz.ntmps128
    go_wp2_with fail
    refine wpE_region (S := fun (W' : World) => W'.cell? ⟨w.heap.size, 0, none⟩ = some (.int .u64 (e : Int))) (s := 8) (by kernel_rfl) ?_
    have hS : (fun (W' : World) => W'.cell? ⟨w.heap.size, 0, none⟩ = some (.int .u64 (e : Int))) _ := c0
    refine wpE_take (i := 0) (oi := { dst := some 12, op := Go.Op.fieldAddr 204 (Go.Operand.tmp 2) 0, type := 0, pos := "ref.go:26", after := #[], guard := none }) (v := ?_) rfl (by kernel_rfl) (fun _ _ _ h => h) (Or.inl ⟨by rfl, fun W hW => ?_⟩) hS ?_
    rotate_left
    · have hw1 := hW; go_simp; (try go_bits); (try rw [if_pos (by omega)]); (try with_reducible rfl)
    (try simp only [Act.put, List.setIfInBounds_toArray, List.set_cons_succ, List.set_cons_zero])
    refine wpE_take (i := 1) (oi := { dst := some 13, op := Go.Op.load 23 (Go.Operand.tmp 12), type := 23, pos := "ref.go:26", after := #[{ on := 0, ground := Go.Ground.data }], guard := none }) (v := ?_) rfl (by kernel_rfl) (fun _ _ _ h => h) (Or.inl ⟨by rfl, fun W hW => ?_⟩) hS ?_
    rotate_left
    · have hw1 := hW; go_simp; (try go_bits); (try rw [if_pos (by omega)]); (try with_reducible rfl)
    (try simp only [Act.put, List.setIfInBounds_toArray, List.set_cons_succ, List.set_cons_zero])
    refine wpE_take (i := 4) (oi := { dst := some 16, op := Go.Op.move (Go.Operand.tmp 1), type := 23, pos := "ref.go:26", after := #[], guard := none }) (v := ?_) rfl (by kernel_rfl) (fun _ _ _ h => h) (Or.inl ⟨by rfl, fun W hW => ?_⟩) hS ?_
    rotate_left
    · have hw1 := hW; go_simp; (try go_bits); (try rw [if_pos (by omega)]); (try with_reducible rfl)
    (try simp only [Act.put, List.setIfInBounds_toArray, List.set_cons_succ, List.set_cons_zero])
    refine wpE_take (i := 5) (oi := { dst := some 17, op := Go.Op.move (Go.Operand.tmp 5), type := 23, pos := "ref.go:26", after := #[], guard := none }) (v := ?_) rfl (by kernel_rfl) (fun _ _ _ h => h) (Or.inl ⟨by rfl, fun W hW => ?_⟩) hS ?_
    rotate_left
    · have hw1 := hW; go_simp; (try go_bits); (try rw [if_pos (by omega)]); (try with_reducible rfl)
    (try simp only [Act.put, List.setIfInBounds_toArray, List.set_cons_succ, List.set_cons_zero])
    refine wpE_take (i := 6) (oi := { dst := some 18, op := Go.Op.binOp Go.BinOp.rem 23 (Go.Operand.tmp 16) (Go.Operand.tmp 17) 23, type := 23, pos := "ref.go:26", after := #[{ on := 4, ground := Go.Ground.data }, { on := 5, ground := Go.Ground.data }], guard := none }) (v := .int .u64 (r : Int)) rfl (by kernel_rfl) (fun _ _ _ h => h) (Or.inl ⟨by rfl, fun W hW => ?_⟩) hS ?_
    · have hw1 := hW; go_simp; (try go_bits); (try trivial)
    (try simp only [Act.put, List.setIfInBounds_toArray, List.set_cons_succ, List.set_cons_zero])
    refine wpE_only (i := 2) (oi := { dst := some 14, op := Go.Op.call { callee := Go.Callee.value (Go.Operand.func 125), args := #[Go.Operand.tmp 13], argTypes := #[23] }, type := 23, pos := "ref.go:26", after := #[{ on := 1, ground := Go.Ground.data }], guard := none }) rfl (by kernel_rfl) (by rfl) (fun K hK => ?_)
    go_simp; refine (HN.out _).mono ?_; rintro e wz ⟨rfl, rfl⟩; refine hK _ _ hS ?_; clear hK K
    (try simp only [Act.put, List.setIfInBounds_toArray, List.set_cons_succ, List.set_cons_zero])
    refine wpE_take (i := 3) (oi := { dst := some 15, op := Go.Op.binOp Go.BinOp.mul 23 (Go.Operand.tmp 14) (Go.Operand.const (Go.Value.int Go.IntKind.u64 4096)) 23, type := 23, pos := "ref.go:26", after := #[{ on := 2, ground := Go.Ground.data }], guard := none }) (v := .int .u64 ((N * 4096 : Nat) : Int)) rfl (by kernel_rfl) (fun _ _ _ h => h) (Or.inl ⟨by rfl, fun W hW => ?_⟩) hS ?_
    · have hw1 := hW; go_simp; (try go_bits); (try trivial)
    (try simp only [Act.put, List.setIfInBounds_toArray, List.set_cons_succ, List.set_cons_zero])
    refine wpE_take (i := 7) (oi := { dst := some 19, op := Go.Op.binOp Go.BinOp.add 23 (Go.Operand.tmp 15) (Go.Operand.tmp 18) 23, type := 23, pos := "ref.go:26", after := #[{ on := 3, ground := Go.Ground.data }, { on := 6, ground := Go.Ground.data }], guard := none }) (v := .int .u64 ((N * 4096 + r : Nat) : Int)) rfl (by kernel_rfl) (fun _ _ _ h => h) (Or.inl ⟨by rfl, fun W hW => ?_⟩) hS ?_
    · have hw1 := hW; go_simp; (try go_bits); (try trivial)
    (try simp only [Act.put, List.setIfInBounds_toArray, List.set_cons_succ, List.set_cons_zero])
    refine wpE_last (oi := { dst := some 4, op := Go.Op.assign (Go.Operand.tmp 19), type := 23, pos := "ref.go:26", after := #[{ on := 7, ground := Go.Ground.data }, { on := 2, ground := Go.Ground.chain }, { on := 0, ground := Go.Ground.phase }, { on := 1, ground := Go.Ground.phase }, { on := 2, ground := Go.Ground.phase }, { on := 3, ground := Go.Ground.phase }, { on := 4, ground := Go.Ground.phase }, { on := 5, ground := Go.Ground.phase }, { on := 6, ground := Go.Ground.phase }, { on := 7, ground := Go.Ground.phase }], guard := none }) rfl (by kernel_rfl) (by kernel_rfl) (by rfl) (fun K hK => ?_)
    go_simp; (try go_bits); refine hK _ _ ?_; clear hK K
    go_wp2
    go_ret
    exact ⟨rfl, HU.out⟩
  · rw [show ((1 : Nat) : Int) = 1 from rfl] at c1 HU ⊢
    rw [show (2 : Nat) ^ (12 + 9 * 1) = 2097152 from rfl]
    obtain ⟨r, hr⟩ : ∃ r : Nat, a % 2097152 = r := ⟨_, rfl⟩
    have hr2 : (a : Int) % 2097152 = (r : Int) := by omega
    have hrl : r < 549755813888 := by omega
    rw [hr]
    go_enter Tryz.func128, Tryz.ntmps128
    go_wp2_with fail
    refine wpE_region (S := fun (W' : World) => W'.cell? ⟨w.heap.size, 0, none⟩ = some (.int .u64 (e : Int))) (s := 8) (by kernel_rfl) ?_
    have hS : (fun (W' : World) => W'.cell? ⟨w.heap.size, 0, none⟩ = some (.int .u64 (e : Int))) _ := c0
    refine wpE_take (i := 0) (oi := { dst := some 12, op := Go.Op.fieldAddr 204 (Go.Operand.tmp 2) 0, type := 0, pos := "ref.go:26", after := #[], guard := none }) (v := ?_) rfl (by kernel_rfl) (fun _ _ _ h => h) (Or.inl ⟨by rfl, fun W hW => ?_⟩) hS ?_
    rotate_left
    · have hw1 := hW; go_simp; (try go_bits); (try rw [if_pos (by omega)]); (try with_reducible rfl)
    (try simp only [Act.put, List.setIfInBounds_toArray, List.set_cons_succ, List.set_cons_zero])
    refine wpE_take (i := 1) (oi := { dst := some 13, op := Go.Op.load 23 (Go.Operand.tmp 12), type := 23, pos := "ref.go:26", after := #[{ on := 0, ground := Go.Ground.data }], guard := none }) (v := ?_) rfl (by kernel_rfl) (fun _ _ _ h => h) (Or.inl ⟨by rfl, fun W hW => ?_⟩) hS ?_
    rotate_left
    · have hw1 := hW; go_simp; (try go_bits); (try rw [if_pos (by omega)]); (try with_reducible rfl)
    (try simp only [Act.put, List.setIfInBounds_toArray, List.set_cons_succ, List.set_cons_zero])
    refine wpE_take (i := 4) (oi := { dst := some 16, op := Go.Op.move (Go.Operand.tmp 1), type := 23, pos := "ref.go:26", after := #[], guard := none }) (v := ?_) rfl (by kernel_rfl) (fun _ _ _ h => h) (Or.inl ⟨by rfl, fun W hW => ?_⟩) hS ?_
    rotate_left
    · have hw1 := hW; go_simp; (try go_bits); (try rw [if_pos (by omega)]); (try with_reducible rfl)
    (try simp only [Act.put, List.setIfInBounds_toArray, List.set_cons_succ, List.set_cons_zero])
    refine wpE_take (i := 5) (oi := { dst := some 17, op := Go.Op.move (Go.Operand.tmp 5), type := 23, pos := "ref.go:26", after := #[], guard := none }) (v := ?_) rfl (by kernel_rfl) (fun _ _ _ h => h) (Or.inl ⟨by rfl, fun W hW => ?_⟩) hS ?_
    rotate_left
    · have hw1 := hW; go_simp; (try go_bits); (try rw [if_pos (by omega)]); (try with_reducible rfl)
    (try simp only [Act.put, List.setIfInBounds_toArray, List.set_cons_succ, List.set_cons_zero])
    refine wpE_take (i := 6) (oi := { dst := some 18, op := Go.Op.binOp Go.BinOp.rem 23 (Go.Operand.tmp 16) (Go.Operand.tmp 17) 23, type := 23, pos := "ref.go:26", after := #[{ on := 4, ground := Go.Ground.data }, { on := 5, ground := Go.Ground.data }], guard := none }) (v := .int .u64 (r : Int)) rfl (by kernel_rfl) (fun _ _ _ h => h) (Or.inl ⟨by rfl, fun W hW => ?_⟩) hS ?_
    · have hw1 := hW; go_simp; (try go_bits); (try trivial)
    (try simp only [Act.put, List.setIfInBounds_toArray, List.set_cons_succ, List.set_cons_zero])
    refine wpE_only (i := 2) (oi := { dst := some 14, op := Go.Op.call { callee := Go.Callee.value (Go.Operand.func 125), args := #[Go.Operand.tmp 13], argTypes := #[23] }, type := 23, pos := "ref.go:26", after := #[{ on := 1, ground := Go.Ground.data }], guard := none }) rfl (by kernel_rfl) (by rfl) (fun K hK => ?_)
    go_simp; refine (HN.out _).mono ?_; rintro e wz ⟨rfl, rfl⟩; refine hK _ _ hS ?_; clear hK K
    (try simp only [Act.put, List.setIfInBounds_toArray, List.set_cons_succ, List.set_cons_zero])
    refine wpE_take (i := 3) (oi := { dst := some 15, op := Go.Op.binOp Go.BinOp.mul 23 (Go.Operand.tmp 14) (Go.Operand.const (Go.Value.int Go.IntKind.u64 4096)) 23, type := 23, pos := "ref.go:26", after := #[{ on := 2, ground := Go.Ground.data }], guard := none }) (v := .int .u64 ((N * 4096 : Nat) : Int)) rfl (by kernel_rfl) (fun _ _ _ h => h) (Or.inl ⟨by rfl, fun W hW => ?_⟩) hS ?_
    · have hw1 := hW; go_simp; (try go_bits); (try trivial)
    (try simp only [Act.put, List.setIfInBounds_toArray, List.set_cons_succ, List.set_cons_zero])
    refine wpE_take (i := 7) (oi := { dst := some 19, op := Go.Op.binOp Go.BinOp.add 23 (Go.Operand.tmp 15) (Go.Operand.tmp 18) 23, type := 23, pos := "ref.go:26", after := #[{ on := 3, ground := Go.Ground.data }, { on := 6, ground := Go.Ground.data }], guard := none }) (v := .int .u64 ((N * 4096 + r : Nat) : Int)) rfl (by kernel_rfl) (fun _ _ _ h => h) (Or.inl ⟨by rfl, fun W hW => ?_⟩) hS ?_
    · have hw1 := hW; go_simp; (try go_bits); (try trivial)
    (try simp only [Act.put, List.setIfInBounds_toArray, List.set_cons_succ, List.set_cons_zero])
    refine wpE_last (oi := { dst := some 4, op := Go.Op.assign (Go.Operand.tmp 19), type := 23, pos := "ref.go:26", after := #[{ on := 7, ground := Go.Ground.data }, { on := 2, ground := Go.Ground.chain }, { on := 0, ground := Go.Ground.phase }, { on := 1, ground := Go.Ground.phase }, { on := 2, ground := Go.Ground.phase }, { on := 3, ground := Go.Ground.phase }, { on := 4, ground := Go.Ground.phase }, { on := 5, ground := Go.Ground.phase }, { on := 6, ground := Go.Ground.phase }, { on := 7, ground := Go.Ground.phase }], guard := none }) rfl (by kernel_rfl) (by kernel_rfl) (by rfl) (fun K hK => ?_)
    go_simp; (try go_bits); refine hK _ _ ?_; clear hK K
    go_wp2
    go_ret
    exact ⟨rfl, HU.out⟩
  · rw [show ((2 : Nat) : Int) = 2 from rfl] at c1 HU ⊢
    rw [show (2 : Nat) ^ (12 + 9 * 2) = 1073741824 from rfl]
    obtain ⟨r, hr⟩ : ∃ r : Nat, a % 1073741824 = r := ⟨_, rfl⟩
    have hr2 : (a : Int) % 1073741824 = (r : Int) := by omega
    have hrl : r < 549755813888 := by omega
    rw [hr]
    go_enter Tryz.func128, Tryz.ntmps128
    go_wp2_with fail
    refine wpE_region (S := fun (W' : World) => W'.cell? ⟨w.heap.size, 0, none⟩ = some (.int .u64 (e : Int))) (s := 8) (by kernel_rfl) ?_
    have hS : (fun (W' : World) => W'.cell? ⟨w.heap.size, 0, none⟩ = some (.int .u64 (e : Int))) _ := c0
    refine wpE_take (i := 0) (oi := { dst := some 12, op := Go.Op.fieldAddr 204 (Go.Operand.tmp 2) 0, type := 0, pos := "ref.go:26", after := #[], guard := none }) (v := ?_) rfl (by kernel_rfl) (fun _ _ _ h => h) (Or.inl ⟨by rfl, fun W hW => ?_⟩) hS ?_
    rotate_left
    · have hw1 := hW; go_simp; (try go_bits); (try rw [if_pos (by omega)]); (try with_reducible rfl)
    (try simp only [Act.put, List.setIfInBounds_toArray, List.set_cons_succ, List.set_cons_zero])
    refine wpE_take (i := 1) (oi := { dst := some 13, op := Go.Op.load 23 (Go.Operand.tmp 12), type := 23, pos := "ref.go:26", after := #[{ on := 0, ground := Go.Ground.data }], guard := none }) (v := ?_) rfl (by kernel_rfl) (fun _ _ _ h => h) (Or.inl ⟨by rfl, fun W hW => ?_⟩) hS ?_
    rotate_left
    · have hw1 := hW; go_simp; (try go_bits); (try rw [if_pos (by omega)]); (try with_reducible rfl)
    (try simp only [Act.put, List.setIfInBounds_toArray, List.set_cons_succ, List.set_cons_zero])
    refine wpE_take (i := 4) (oi := { dst := some 16, op := Go.Op.move (Go.Operand.tmp 1), type := 23, pos := "ref.go:26", after := #[], guard := none }) (v := ?_) rfl (by kernel_rfl) (fun _ _ _ h => h) (Or.inl ⟨by rfl, fun W hW => ?_⟩) hS ?_
    rotate_left
    · have hw1 := hW; go_simp; (try go_bits); (try rw [if_pos (by omega)]); (try with_reducible rfl)
    (try simp only [Act.put, List.setIfInBounds_toArray, List.set_cons_succ, List.set_cons_zero])
    refine wpE_take (i := 5) (oi := { dst := some 17, op := Go.Op.move (Go.Operand.tmp 5), type := 23, pos := "ref.go:26", after := #[], guard := none }) (v := ?_) rfl (by kernel_rfl) (fun _ _ _ h => h) (Or.inl ⟨by rfl, fun W hW => ?_⟩) hS ?_
    rotate_left
    · have hw1 := hW; go_simp; (try go_bits); (try rw [if_pos (by omega)]); (try with_reducible rfl)
    (try simp only [Act.put, List.setIfInBounds_toArray, List.set_cons_succ, List.set_cons_zero])
    refine wpE_take (i := 6) (oi := { dst := some 18, op := Go.Op.binOp Go.BinOp.rem 23 (Go.Operand.tmp 16) (Go.Operand.tmp 17) 23, type := 23, pos := "ref.go:26", after := #[{ on := 4, ground := Go.Ground.data }, { on := 5, ground := Go.Ground.data }], guard := none }) (v := .int .u64 (r : Int)) rfl (by kernel_rfl) (fun _ _ _ h => h) (Or.inl ⟨by rfl, fun W hW => ?_⟩) hS ?_
    · have hw1 := hW; go_simp; (try go_bits); (try trivial)
    (try simp only [Act.put, List.setIfInBounds_toArray, List.set_cons_succ, List.set_cons_zero])
    refine wpE_only (i := 2) (oi := { dst := some 14, op := Go.Op.call { callee := Go.Callee.value (Go.Operand.func 125), args := #[Go.Operand.tmp 13], argTypes := #[23] }, type := 23, pos := "ref.go:26", after := #[{ on := 1, ground := Go.Ground.data }], guard := none }) rfl (by kernel_rfl) (by rfl) (fun K hK => ?_)
    go_simp; refine (HN.out _).mono ?_; rintro e wz ⟨rfl, rfl⟩; refine hK _ _ hS ?_; clear hK K
    (try simp only [Act.put, List.setIfInBounds_toArray, List.set_cons_succ, List.set_cons_zero])
    refine wpE_take (i := 3) (oi := { dst := some 15, op := Go.Op.binOp Go.BinOp.mul 23 (Go.Operand.tmp 14) (Go.Operand.const (Go.Value.int Go.IntKind.u64 4096)) 23, type := 23, pos := "ref.go:26", after := #[{ on := 2, ground := Go.Ground.data }], guard := none }) (v := .int .u64 ((N * 4096 : Nat) : Int)) rfl (by kernel_rfl) (fun _ _ _ h => h) (Or.inl ⟨by rfl, fun W hW => ?_⟩) hS ?_
    · have hw1 := hW; go_simp; (try go_bits); (try trivial)
    (try simp only [Act.put, List.setIfInBounds_toArray, List.set_cons_succ, List.set_cons_zero])
    refine wpE_take (i := 7) (oi := { dst := some 19, op := Go.Op.binOp Go.BinOp.add 23 (Go.Operand.tmp 15) (Go.Operand.tmp 18) 23, type := 23, pos := "ref.go:26", after := #[{ on := 3, ground := Go.Ground.data }, { on := 6, ground := Go.Ground.data }], guard := none }) (v := .int .u64 ((N * 4096 + r : Nat) : Int)) rfl (by kernel_rfl) (fun _ _ _ h => h) (Or.inl ⟨by rfl, fun W hW => ?_⟩) hS ?_
    · have hw1 := hW; go_simp; (try go_bits); (try trivial)
    (try simp only [Act.put, List.setIfInBounds_toArray, List.set_cons_succ, List.set_cons_zero])
    refine wpE_last (oi := { dst := some 4, op := Go.Op.assign (Go.Operand.tmp 19), type := 23, pos := "ref.go:26", after := #[{ on := 7, ground := Go.Ground.data }, { on := 2, ground := Go.Ground.chain }, { on := 0, ground := Go.Ground.phase }, { on := 1, ground := Go.Ground.phase }, { on := 2, ground := Go.Ground.phase }, { on := 3, ground := Go.Ground.phase }, { on := 4, ground := Go.Ground.phase }, { on := 5, ground := Go.Ground.phase }, { on := 6, ground := Go.Ground.phase }, { on := 7, ground := Go.Ground.phase }], guard := none }) rfl (by kernel_rfl) (by kernel_rfl) (by rfl) (fun K hK => ?_)
    go_simp; (try go_bits); refine hK _ _ ?_; clear hK K
    go_wp2
    go_ret
    exact ⟨rfl, HU.out⟩
theorem dnG_step (n : Nat) (m : Nat → Int) (a : Nat) (L T : Nat) (hl : L ≤ 2) : dnG 0 n m a L T = if n ≤ T then (3, 0, 0) else if badE (ent m T (a / 2 ^ (12 + 9 * L) % 512)) then (1, 0, 0) else if leafE (ent m T (a / 2 ^ (12 + 9 * L) % 512)) then (if misE (ent m T (a / 2 ^ (12 + 9 * L) % 512)) L then (1, 0, 0) else (0, ent m T (a / 2 ^ (12 + 9 * L) % 512), L)) else (match L with | 0 => (1, 0, 0) | L + 1 => dnG 0 n m a L (nxtE (ent m T (a / 2 ^ (12 + 9 * L.succ) % 512)))) := by
  have ho : outG 0 n T ↔ n ≤ T := by unfold outG; omega
  have h0 : misE (ent m T (a / 2 ^ 12 % 512)) 0 = false := by unfold misE; rw [show (2 : Nat) ^ (9 * 0) = 1 from rfl, Nat.mod_one]; rfl
  rcases (show L = 0 ∨ L = 1 ∨ L = 2 by omega) with rfl | rfl | rfl
  · unfold dnG
    simp only [ho, Nat.sub_zero, show 12 + 9 * 0 = 12 from rfl, h0, Bool.false_eq_true, if_false]
  · conv => lhs; unfold dnG
    simp only [ho, Nat.sub_zero, show 12 + 9 * 1 = 21 from rfl, show 12 + 9 * Nat.succ 0 = 21 from rfl]
  · conv => lhs; unfold dnG
    simp only [ho, Nat.sub_zero, show 12 + 9 * 2 = 30 from rfl, show 12 + 9 * Nat.succ 1 = 30 from rfl]
/-- what Guest comes to from what down tells -/
def gOut (D : Int × Nat × Nat) (a acc : Nat) : Nat × Nat × Int := if D.1 = 3 then (0, 0, 3) else if D.1 = 0 ∧ letE D.2.1 acc = true then (plcE D.2.1 D.2.2 a, permE D.2.1, 0) else (0, 0, 2)
theorem guestP_out {n : Nat} {m : Nat → Int} {root a acc : Nat} (hr : root ≠ 0) (ha : ¬ 549755813888 ≤ a) : guestP 0 n m root a acc = gOut (dnG 0 n m a 2 root) a acc := by
  unfold guestP gOut
  rw [if_neg hr, if_neg ha]
end Go.Proofs.YtonhlgfgbdiapaaGreat

/- The document's page tables: Guest. -/
namespace Go.Proofs.YtonhlgfgbdiapaaGreat
set_option linter.unusedVariables false
set_option linter.unusedSimpArgs false
open Go.RowKit
set_option maxRecDepth 100000

theorem i64_and_nat (a b : Nat) (ha : a < 9223372036854775808) (hb : b < 9223372036854775808) : bits .and .i64 (a : Int) (b : Int) = ((a &&& b : Nat) : Int) := by
  have hx : a &&& b < 2 ^ 63 := Nat.and_lt_two_pow _ (by omega)
  show IntKind.i64.wrap ((BitVec.ofInt 64 (a : Int) &&& BitVec.ofInt 64 (b : Int)).toNat : Int) = _
  rw [BitVec.toNat_and, ofInt_u64 a (by omega), ofInt_u64 b (by omega)]
  rw [IntWalk.i64_in _ (by omega)]
theorem i64_or_nat (a b : Nat) (ha : a < 9223372036854775808) (hb : b < 9223372036854775808) : bits .or .i64 (a : Int) (b : Int) = ((a ||| b : Nat) : Int) := by
  have hx : a ||| b < 2 ^ 63 := Nat.or_lt_two_pow (by omega) (by omega)
  show IntKind.i64.wrap ((BitVec.ofInt 64 (a : Int) ||| BitVec.ofInt 64 (b : Int)).toNat : Int) = _
  rw [BitVec.toNat_or, ofInt_u64 a (by omega), ofInt_u64 b (by omega)]
  rw [IntWalk.i64_in _ (by omega)]
theorem rd_ent {n : Nat} {m : Nat → Int} (hm : ∀ x, 0 ≤ m x ∧ m x < 256) (T ix : Nat) (hix : ix < 512) (hn : n ≤ 1024) (addr : Int) (he : addr = ((T * 4096 + 8 * ix : Nat) : Int)) : rdR 0 n m addr 8 = if n ≤ T then (0, false) else ((ent m T ix : Int), true) := by
  subst he
  unfold rdR
  rw [show okS 8 = true from rfl]
  by_cases h : n ≤ T
  · rw [if_pos h]
    have : hasR 0 n ((T * 4096 + 8 * ix : Nat) : Int) 8 = false := by
      cases hq : hasR 0 n ((T * 4096 + 8 * ix : Nat) : Int) 8 with
      | false => rfl
      | true => have := hasR_iff.1 hq; omega
    rw [this]; rfl
  · rw [if_neg h]
    have : hasR 0 n ((T * 4096 + 8 * ix : Nat) : Int) 8 = true := hasR_iff.2 ⟨by decide, by omega, by omega, by omega⟩
    rw [this]
    simp only [Bool.and_self, if_true]
    rw [show (((T * 4096 + 8 * ix : Nat) : Int) - ((0 : Nat) : Int)).toNat = T * 4096 + 8 * ix from by omega, show (8 : Int).toNat = 8 from rfl, ent_num hm]
theorem perm_u (e : Nat) (he : e < 18014398509481984) {v4 v128 : Bool} (h4 : (e &&& 4 == 0) = v4) (h128 : (e &&& 128 == 0) = v128) : permE e = if !v4 && !v128 then (e &&& 10) ||| 4 else e &&& 10 := by
  rw [permE_eq, h4, h128]
set_option maxHeartbeats 8000000 in
theorem rg_Guest {own : Nat → Nat} {cm p2 n : Nat} {m : Nat → Int} {w : World} (hM : MemAt refK own cm w p2 0 n m) (root a acc : Nat) (hr : root ≠ 0) (hrt : root < 18446744073709551616) (ha : a < 18446744073709551616) (hacc : acc = 2 ∨ acc = 3) :
    Calls Tryz.prog 108 #[.pointer (some ⟨p2, 0, none⟩), .int .u64 (root : Int), .int .u64 (a : Int), .int .i64 (acc : Int)] w fun r w' =>
      r = .returned (.tuple #[.int .u64 (((guestP 0 n m root a acc).1 : Nat) : Int), .int .i64 (((guestP 0 n m root a acc).2.1 : Nat) : Int), .int .i64 (guestP 0 n m root a acc).2.2]) ∧ Upd (fun _ => False) w w' := by
  obtain ⟨G, hG⟩ : ∃ G, guestP 0 n m root a acc = G := ⟨_, rfl⟩
  rw [hG]
  have hr0 : ((root : Int) == 0) = false := by simp; omega
  by_cases h39 : 549755813888 ≤ a
  · have hd : decide ((549755813888 : Int) ≤ (a : Int)) = true := by simp; omega
    have hg2 : G = (0, 0, 2) := by rw [← hG]; unfold guestP; rw [if_neg hr, if_pos h39]
    subst hg2
    clear hM hG
    go_enter Tryz.func108, Tryz.ntmps108
    go_wp2
    go_ret3
    exact ⟨rfl, Upd.refl _ _⟩
  · have hd : decide ((549755813888 : Int) ≤ (a : Int)) = false := by simp; omega
    rw [guestP_out hr h39] at hG
    have hbd := hM.bd
    obtain ⟨_, hn1, hn2⟩ := hM.sizes
    have HM := Lib.hid (And.intro hM hbd)
    have HG := Lib.hid hG
    clear hM hG hbd
    go_enter Tryz.func108, Tryz.ntmps108
    go_wp2
    go_loopw [11, 12] (fun tb lv wr => wr = w ∧ ((∃ L T : Nat, L ≤ 2 ∧ tb = .int .u64 (T : Int) ∧ T < 18446744073709551616 ∧ lv = .int .i64 (L : Int) ∧ Hid (gOut (dnG 0 n m a L T) a acc = G)) ∨ (∃ T : Nat, tb = .int .u64 (T : Int) ∧ lv = .int .i64 (-1) ∧ G = (0, 0, 2)))) (fun _ lv _ => (intOf lv + 1).toNat)
    case atStart => exact ⟨rfl, .inl ⟨2, root, Nat.le_refl _, rfl, hrt, rfl, HG.out⟩⟩
    case round =>
      obtain ⟨rfl, h | ⟨T, rfl, rfl, rfl⟩⟩ := hrel
      · obtain ⟨L, T, hL, rfl, hT, rfl, HD⟩ := h
        clear HG
        by_cases hT52 : 4503599627370495 < T
        · have htd : decide ((4503599627370495 : Int) < (T : Int)) = true := by simp; omega
          have hD := HD.out
          rw [dnG_step n m a L T hL, if_pos (by omega)] at hD
          have hg : G = (0, 0, 3) := by rw [← hD]; rfl
          subst hg
          have hLd : decide ((0 : Int) ≤ (L : Int)) = true := by simp
          clear hD HD
          go_wp2
          go_ret3
          exact ⟨rfl, Upd.refl _ _⟩
        · have htd : decide ((4503599627370495 : Int) < (T : Int)) = false := by simp; omega
          have hD := HD.out
          rcases (show L = 0 ∨ L = 1 ∨ L = 2 by omega) with rfl | rfl | rfl
          · have hstep := dnG_step n m a 0 T (by decide)
            rw [hstep] at hD
            obtain ⟨ix, hixe⟩ : ∃ ix, a / 2 ^ (12 + 9 * 0) % 512 = ix := ⟨_, rfl⟩
            rw [hixe] at hD
            have hix : ix < 512 := by rw [← hixe]; exact Nat.mod_lt _ (by decide)
            have hix2 : a / 4096 % 512 = ix := hixe
            have hq : (a : Int) / 4096 % 512 = (ix : Int) := by omega
            have hRd := mref_Read HM.out.1 ((T : Int) * 4096 + (ix : Int) * 8) 8 (by omega) (by omega) (by decide) (by decide)
            rw [rd_ent HM.out.2 T ix hix hn2 _ (by omega)] at hRd
            have hel := ent_lt HM.out.2 T ix
            rw [show ((0 : Nat) : Int) = 0 from rfl]
            by_cases hnT : n ≤ T
            · rw [if_pos hnT] at hD hRd
              have hg : G = (0, 0, 3) := by rw [← hD]; rfl
              subst hg
              have HR := Lib.hid hRd
              clear hD hstep HD hix hixe hix2 hRd hel
              go_wp2_with fail
              ((with_reducible refine HR.out.mono ?_); rintro e wz ⟨rfl, rfl⟩)
              clear HR
              go_wp2
              go_ret3
              exact ⟨rfl, Upd.refl _ _⟩
            · rw [if_neg hnT] at hD hRd
              obtain ⟨e, he⟩ : ∃ e, ent m T ix = e := ⟨_, rfl⟩
              rw [he] at hD hRd hel
              have HR := Lib.hid hRd
              have HW := Lib.hid (fun w => rg_wrong e hel w)
              cases hb : badE e with
              | true =>
                rw [hb] at hD HW
                rw [if_pos rfl] at hD
                have hg : G = (0, 0, 2) := by rw [← hD]; rfl
                subst hg
                clear hD hstep HD hix hixe hix2 hRd he hb
                go_wp2_with fail
                ((with_reducible refine HR.out.mono ?_); rintro e wz ⟨rfl, rfl⟩)
                clear HR
                go_wp2_with fail
                ((with_reducible refine (HW.out _).mono ?_); rintro e wz ⟨rfl, rfl⟩)
                go_wp2
                go_ret3
                exact ⟨rfl, Upd.refl _ _⟩
              | false =>
                rw [hb] at hD HW
                rw [if_neg (by decide)] at hD
                have h54 : e < 18014398509481984 := by unfold badE at hb; simp at hb; omega
                have hlf10 := and10_g e hel
                cases hlf : leafE e with
                | false =>
                  rw [hlf] at hD hlf10
                  rw [if_neg (by decide)] at hD
                  have HNu := Lib.hid (fun w => rg_number e hel w)
                  have hnl := nxt_lt e
                  have hg : G = (0, 0, 2) := by rw [← hD]; rfl
                  subst hg
                  clear hD hstep HD hix hixe hix2 hRd hb hlf he
                  simp only [Bool.not_false] at hlf10
                  go_wp2_with fail
                  ((with_reducible refine HR.out.mono ?_); rintro e wz ⟨rfl, rfl⟩)
                  clear HR
                  go_wp2_with fail
                  ((with_reducible refine (HW.out _).mono ?_); rintro e wz ⟨rfl, rfl⟩)
                  clear HW
                  go_wp2_with fail
                  ((with_reducible refine (HNu.out _).mono ?_); rintro e wz ⟨rfl, rfl⟩)
                  clear HNu
                  go_wp2
                  exact ⟨⟨by first | trivial | rfl, .inr ⟨nxtE e, by first | trivial | rfl, by first | trivial | rfl, by first | trivial | rfl⟩⟩, by simp [intOf]⟩
                | true =>
                  rw [hlf] at hD hlf10
                  rw [if_pos rfl] at hD
                  simp only [Bool.not_true] at hlf10
                  have HMi := Lib.hid (fun w => rg_misplaced e 0 hel (by decide) w)
                  cases hmi : misE e 0 with
                  | true =>
                    rw [hmi] at hD HMi
                    rw [if_pos rfl] at hD
                    have hg : G = (0, 0, 2) := by rw [← hD]; rfl
                    subst hg
                    rw [show ((0 : Nat) : Int) = 0 from rfl] at HMi
                    clear hD hstep HD hix hixe hix2 hRd hb hlf he hmi
                    go_wp2_with fail
                    ((with_reducible refine HR.out.mono ?_); rintro e wz ⟨rfl, rfl⟩)
                    clear HR
                    go_wp2_with fail
                    ((with_reducible refine (HW.out _).mono ?_); rintro e wz ⟨rfl, rfl⟩)
                    clear HW
                    go_wp2_with fail
                    ((with_reducible refine (HMi.out _).mono ?_); rintro e wz ⟨rfl, rfl⟩)
                    clear HMi
                    go_wp2
                    go_ret3
                    exact ⟨rfl, Upd.refl _ _⟩
                  | false =>
                    rw [hmi] at hD HMi
                    rw [if_neg (by decide)] at hD
                    rw [show ((0 : Nat) : Int) = 0 from rfl] at HMi
                    have HLe := Lib.hid (fun w => rg_lets e acc hel hacc w)
                    cases hle : letE e acc with
                    | false =>
                      rw [hle] at HLe
                      have hg : G = (0, 0, 2) := by rw [← hD]; unfold gOut; simp [hle]
                      subst hg
                      clear hD hstep HD hix hixe hix2 hRd hb hlf he hmi hle
                      go_wp2_with fail
                      ((with_reducible refine HR.out.mono ?_); rintro e wz ⟨rfl, rfl⟩)
                      clear HR
                      go_wp2_with fail
                      ((with_reducible refine (HW.out _).mono ?_); rintro e wz ⟨rfl, rfl⟩)
                      clear HW
                      go_wp2_with fail
                      ((with_reducible refine (HMi.out _).mono ?_); rintro e wz ⟨rfl, rfl⟩)
                      clear HMi
                      go_wp2_with fail
                      ((with_reducible refine (HLe.out _).mono ?_); rintro e wz ⟨rfl, rfl⟩)
                      clear HLe
                      go_wp2
                      go_ret3
                      exact ⟨rfl, Upd.refl _ _⟩
                    | true =>
                      rw [hle] at HLe
                      have hg : G = (plcE e 0 a, permE e, 0) := by rw [← hD]; unfold gOut; simp [hle]
                      subst hg
                      have hpu := rg_put e 0 a hel (by decide) (by omega)
                      rw [show ((0 : Nat) : Int) = 0 from rfl] at hpu
                      have HPu := Lib.hid hpu
                      obtain ⟨v4, hv4⟩ : ∃ v, (e &&& 4 == 0) = v := ⟨_, rfl⟩
                      obtain ⟨v128, hv128⟩ : ∃ v, (e &&& 128 == 0) = v := ⟨_, rfl⟩
                      obtain ⟨e4, f4⟩ := bandN e 4 hel (by decide) hv4
                      obtain ⟨e128, f128⟩ := bandN e 128 hel (by decide) hv128
                      rw [show ((4 : Nat) : Int) = 4 from rfl] at e4 f4
                      rw [show ((128 : Nat) : Int) = 128 from rfl] at e128 f128
                      have hpm := perm_u e h54 hv4 hv128
                      have h10 := i64_and_nat e 10 (by omega) (by decide)
                      have hp10 : e &&& 10 < 16 := Nat.lt_of_le_of_lt Nat.and_le_right (by decide)
                      obtain ⟨p10, hp⟩ : ∃ p, e &&& 10 = p := ⟨_, rfl⟩
                      rw [hp] at hpm h10 hp10
                      have h10o := i64_or_nat p10 4 (by omega) (by decide)
                      rw [show ((10 : Nat) : Int) = 10 from rfl] at h10
                      rw [show ((4 : Nat) : Int) = 4 from rfl] at h10o
                      obtain ⟨PM, hPM⟩ : ∃ PM, permE e = PM := ⟨_, rfl⟩
                      rw [hPM] at hpm
                      obtain ⟨PL, hPL⟩ : ∃ PL, plcE e 0 a = PL := ⟨_, rfl⟩
                      rw [hPL] at HPu
                      have HP2 := Lib.hid (And.intro hPL hPM)
                      have HPM := Lib.hid hpm
                      clear hD hstep HD hix hixe hix2 hRd hb hlf he hmi hle hv4 hv128 hp hPM hPL hpu hpm
                      rcases v4 with _ | _
                      · rcases v128 with _ | _
                        · simp only [Bool.not_false, Bool.not_true] at f4 f128
                          go_wp2_with fail
                          ((with_reducible refine HR.out.mono ?_); rintro e wz ⟨rfl, rfl⟩)
                          clear HR
                          go_wp2_with fail
                          ((with_reducible refine (HW.out _).mono ?_); rintro e wz ⟨rfl, rfl⟩)
                          clear HW
                          go_wp2_with fail
                          ((with_reducible refine (HMi.out _).mono ?_); rintro e wz ⟨rfl, rfl⟩)
                          clear HMi
                          go_wp2_with fail
                          ((with_reducible refine (HLe.out _).mono ?_); rintro e wz ⟨rfl, rfl⟩)
                          clear HLe
                          go_wp2_with fail
                          ((with_reducible refine (HPu.out _).mono ?_); rintro e w9 ⟨rfl, hU9⟩)
                          have HE := Lib.hid hU9
                          clear hU9 HPu
                          go_wp2
                          go_ret3
                          rw [HP2.out.1, HP2.out.2, HPM.out]
                          exact ⟨rfl, HE.out⟩
                        · simp only [Bool.not_false, Bool.not_true] at f4 f128
                          go_wp2_with fail
                          ((with_reducible refine HR.out.mono ?_); rintro e wz ⟨rfl, rfl⟩)
                          clear HR
                          go_wp2_with fail
                          ((with_reducible refine (HW.out _).mono ?_); rintro e wz ⟨rfl, rfl⟩)
                          clear HW
                          go_wp2_with fail
                          ((with_reducible refine (HMi.out _).mono ?_); rintro e wz ⟨rfl, rfl⟩)
                          clear HMi
                          go_wp2_with fail
                          ((with_reducible refine (HLe.out _).mono ?_); rintro e wz ⟨rfl, rfl⟩)
                          clear HLe
                          go_wp2_with fail
                          ((with_reducible refine (HPu.out _).mono ?_); rintro e w9 ⟨rfl, hU9⟩)
                          have HE := Lib.hid hU9
                          clear hU9 HPu
                          go_wp2
                          go_ret3
                          rw [HP2.out.1, HP2.out.2, HPM.out]
                          exact ⟨rfl, HE.out⟩
                      · simp only [Bool.not_true] at f4
                        clear e128 f128
                        go_wp2_with fail
                        ((with_reducible refine HR.out.mono ?_); rintro e wz ⟨rfl, rfl⟩)
                        clear HR
                        go_wp2_with fail
                        ((with_reducible refine (HW.out _).mono ?_); rintro e wz ⟨rfl, rfl⟩)
                        clear HW
                        go_wp2_with fail
                        ((with_reducible refine (HMi.out _).mono ?_); rintro e wz ⟨rfl, rfl⟩)
                        clear HMi
                        go_wp2_with fail
                        ((with_reducible refine (HLe.out _).mono ?_); rintro e wz ⟨rfl, rfl⟩)
                        clear HLe
                        go_wp2_with fail
                        ((with_reducible refine (HPu.out _).mono ?_); rintro e w9 ⟨rfl, hU9⟩)
                        have HE := Lib.hid hU9
                        clear hU9 HPu
                        go_wp2
                        go_ret3
                        rw [HP2.out.1, HP2.out.2, HPM.out]
                        exact ⟨rfl, HE.out⟩
          · have hstep := dnG_step n m a 1 T (by decide)
            rw [hstep] at hD
            obtain ⟨ix, hixe⟩ : ∃ ix, a / 2 ^ (12 + 9 * 1) % 512 = ix := ⟨_, rfl⟩
            rw [hixe] at hD
            have hix : ix < 512 := by rw [← hixe]; exact Nat.mod_lt _ (by decide)
            have hix2 : a / 2097152 % 512 = ix := hixe
            have hq : (a : Int) / 2097152 % 512 = (ix : Int) := by omega
            have hRd := mref_Read HM.out.1 ((T : Int) * 4096 + (ix : Int) * 8) 8 (by omega) (by omega) (by decide) (by decide)
            rw [rd_ent HM.out.2 T ix hix hn2 _ (by omega)] at hRd
            have hel := ent_lt HM.out.2 T ix
            rw [show ((1 : Nat) : Int) = 1 from rfl]
            by_cases hnT : n ≤ T
            · rw [if_pos hnT] at hD hRd
              have hg : G = (0, 0, 3) := by rw [← hD]; rfl
              subst hg
              have HR := Lib.hid hRd
              clear hD hstep HD hix hixe hix2 hRd hel
              go_wp2_with fail
              ((with_reducible refine HR.out.mono ?_); rintro e wz ⟨rfl, rfl⟩)
              clear HR
              go_wp2
              go_ret3
              exact ⟨rfl, Upd.refl _ _⟩
            · rw [if_neg hnT] at hD hRd
              obtain ⟨e, he⟩ : ∃ e, ent m T ix = e := ⟨_, rfl⟩
              have hixe' : a / 2 ^ (12 + 9 * Nat.succ 0) % 512 = ix := hixe
              rw [he] at hD hRd hel
              have HR := Lib.hid hRd
              have HW := Lib.hid (fun w => rg_wrong e hel w)
              cases hb : badE e with
              | true =>
                rw [hb] at hD HW
                rw [if_pos rfl] at hD
                have hg : G = (0, 0, 2) := by rw [← hD]; rfl
                subst hg
                clear hD hstep HD hix hixe hixe' hix2 hRd he hb
                go_wp2_with fail
                ((with_reducible refine HR.out.mono ?_); rintro e wz ⟨rfl, rfl⟩)
                clear HR
                go_wp2_with fail
                ((with_reducible refine (HW.out _).mono ?_); rintro e wz ⟨rfl, rfl⟩)
                go_wp2
                go_ret3
                exact ⟨rfl, Upd.refl _ _⟩
              | false =>
                rw [hb] at hD HW
                rw [if_neg (by decide)] at hD
                have h54 : e < 18014398509481984 := by unfold badE at hb; simp at hb; omega
                have hlf10 := and10_g e hel
                cases hlf : leafE e with
                | false =>
                  rw [hlf] at hD hlf10
                  rw [if_neg (by decide)] at hD
                  have HNu := Lib.hid (fun w => rg_number e hel w)
                  have hnl := nxt_lt e
                  simp only [] at hD
                  rw [hixe', he] at hD
                  have HDN := Lib.hid hD
                  clear hD hstep HD hix hixe hixe' hix2 hRd hb hlf he
                  simp only [Bool.not_false] at hlf10
                  go_wp2_with fail
                  ((with_reducible refine HR.out.mono ?_); rintro e wz ⟨rfl, rfl⟩)
                  clear HR
                  go_wp2_with fail
                  ((with_reducible refine (HW.out _).mono ?_); rintro e wz ⟨rfl, rfl⟩)
                  clear HW
                  go_wp2_with fail
                  ((with_reducible refine (HNu.out _).mono ?_); rintro e wz ⟨rfl, rfl⟩)
                  clear HNu
                  go_wp2
                  exact ⟨⟨by first | trivial | rfl, .inl ⟨0, nxtE e, by decide, by first | trivial | rfl, by omega, by first | trivial | rfl, HDN.out⟩⟩, by simp [intOf]⟩
                | true =>
                  rw [hlf] at hD hlf10
                  rw [if_pos rfl] at hD
                  simp only [Bool.not_true] at hlf10
                  have HMi := Lib.hid (fun w => rg_misplaced e 1 hel (by decide) w)
                  cases hmi : misE e 1 with
                  | true =>
                    rw [hmi] at hD HMi
                    rw [if_pos rfl] at hD
                    have hg : G = (0, 0, 2) := by rw [← hD]; rfl
                    subst hg
                    rw [show ((1 : Nat) : Int) = 1 from rfl] at HMi
                    clear hD hstep HD hix hixe hixe' hix2 hRd hb hlf he hmi
                    go_wp2_with fail
                    ((with_reducible refine HR.out.mono ?_); rintro e wz ⟨rfl, rfl⟩)
                    clear HR
                    go_wp2_with fail
                    ((with_reducible refine (HW.out _).mono ?_); rintro e wz ⟨rfl, rfl⟩)
                    clear HW
                    go_wp2_with fail
                    ((with_reducible refine (HMi.out _).mono ?_); rintro e wz ⟨rfl, rfl⟩)
                    clear HMi
                    go_wp2
                    go_ret3
                    exact ⟨rfl, Upd.refl _ _⟩
                  | false =>
                    rw [hmi] at hD HMi
                    rw [if_neg (by decide)] at hD
                    rw [show ((1 : Nat) : Int) = 1 from rfl] at HMi
                    have HLe := Lib.hid (fun w => rg_lets e acc hel hacc w)
                    cases hle : letE e acc with
                    | false =>
                      rw [hle] at HLe
                      have hg : G = (0, 0, 2) := by rw [← hD]; unfold gOut; simp [hle]
                      subst hg
                      clear hD hstep HD hix hixe hixe' hix2 hRd hb hlf he hmi hle
                      go_wp2_with fail
                      ((with_reducible refine HR.out.mono ?_); rintro e wz ⟨rfl, rfl⟩)
                      clear HR
                      go_wp2_with fail
                      ((with_reducible refine (HW.out _).mono ?_); rintro e wz ⟨rfl, rfl⟩)
                      clear HW
                      go_wp2_with fail
                      ((with_reducible refine (HMi.out _).mono ?_); rintro e wz ⟨rfl, rfl⟩)
                      clear HMi
                      go_wp2_with fail
                      ((with_reducible refine (HLe.out _).mono ?_); rintro e wz ⟨rfl, rfl⟩)
                      clear HLe
                      go_wp2
                      go_ret3
                      exact ⟨rfl, Upd.refl _ _⟩
                    | true =>
                      rw [hle] at HLe
                      have hg : G = (plcE e 1 a, permE e, 0) := by rw [← hD]; unfold gOut; simp [hle]
                      subst hg
                      have hpu := rg_put e 1 a hel (by decide) (by omega)
                      rw [show ((1 : Nat) : Int) = 1 from rfl] at hpu
                      have HPu := Lib.hid hpu
                      obtain ⟨v4, hv4⟩ : ∃ v, (e &&& 4 == 0) = v := ⟨_, rfl⟩
                      obtain ⟨v128, hv128⟩ : ∃ v, (e &&& 128 == 0) = v := ⟨_, rfl⟩
                      obtain ⟨e4, f4⟩ := bandN e 4 hel (by decide) hv4
                      obtain ⟨e128, f128⟩ := bandN e 128 hel (by decide) hv128
                      rw [show ((4 : Nat) : Int) = 4 from rfl] at e4 f4
                      rw [show ((128 : Nat) : Int) = 128 from rfl] at e128 f128
                      have hpm := perm_u e h54 hv4 hv128
                      have h10 := i64_and_nat e 10 (by omega) (by decide)
                      have hp10 : e &&& 10 < 16 := Nat.lt_of_le_of_lt Nat.and_le_right (by decide)
                      obtain ⟨p10, hp⟩ : ∃ p, e &&& 10 = p := ⟨_, rfl⟩
                      rw [hp] at hpm h10 hp10
                      have h10o := i64_or_nat p10 4 (by omega) (by decide)
                      rw [show ((10 : Nat) : Int) = 10 from rfl] at h10
                      rw [show ((4 : Nat) : Int) = 4 from rfl] at h10o
                      obtain ⟨PM, hPM⟩ : ∃ PM, permE e = PM := ⟨_, rfl⟩
                      rw [hPM] at hpm
                      obtain ⟨PL, hPL⟩ : ∃ PL, plcE e 1 a = PL := ⟨_, rfl⟩
                      rw [hPL] at HPu
                      have HP2 := Lib.hid (And.intro hPL hPM)
                      have HPM := Lib.hid hpm
                      clear hD hstep HD hix hixe hixe' hix2 hRd hb hlf he hmi hle hv4 hv128 hp hPM hPL hpu hpm
                      rcases v4 with _ | _
                      · rcases v128 with _ | _
                        · simp only [Bool.not_false, Bool.not_true] at f4 f128
                          go_wp2_with fail
                          ((with_reducible refine HR.out.mono ?_); rintro e wz ⟨rfl, rfl⟩)
                          clear HR
                          go_wp2_with fail
                          ((with_reducible refine (HW.out _).mono ?_); rintro e wz ⟨rfl, rfl⟩)
                          clear HW
                          go_wp2_with fail
                          ((with_reducible refine (HMi.out _).mono ?_); rintro e wz ⟨rfl, rfl⟩)
                          clear HMi
                          go_wp2_with fail
                          ((with_reducible refine (HLe.out _).mono ?_); rintro e wz ⟨rfl, rfl⟩)
                          clear HLe
                          go_wp2_with fail
                          ((with_reducible refine (HPu.out _).mono ?_); rintro e w9 ⟨rfl, hU9⟩)
                          have HE := Lib.hid hU9
                          clear hU9 HPu
                          go_wp2
                          go_ret3
                          rw [HP2.out.1, HP2.out.2, HPM.out]
                          exact ⟨rfl, HE.out⟩
                        · simp only [Bool.not_false, Bool.not_true] at f4 f128
                          go_wp2_with fail
                          ((with_reducible refine HR.out.mono ?_); rintro e wz ⟨rfl, rfl⟩)
                          clear HR
                          go_wp2_with fail
                          ((with_reducible refine (HW.out _).mono ?_); rintro e wz ⟨rfl, rfl⟩)
                          clear HW
                          go_wp2_with fail
                          ((with_reducible refine (HMi.out _).mono ?_); rintro e wz ⟨rfl, rfl⟩)
                          clear HMi
                          go_wp2_with fail
                          ((with_reducible refine (HLe.out _).mono ?_); rintro e wz ⟨rfl, rfl⟩)
                          clear HLe
                          go_wp2_with fail
                          ((with_reducible refine (HPu.out _).mono ?_); rintro e w9 ⟨rfl, hU9⟩)
                          have HE := Lib.hid hU9
                          clear hU9 HPu
                          go_wp2
                          go_ret3
                          rw [HP2.out.1, HP2.out.2, HPM.out]
                          exact ⟨rfl, HE.out⟩
                      · simp only [Bool.not_true] at f4
                        clear e128 f128
                        go_wp2_with fail
                        ((with_reducible refine HR.out.mono ?_); rintro e wz ⟨rfl, rfl⟩)
                        clear HR
                        go_wp2_with fail
                        ((with_reducible refine (HW.out _).mono ?_); rintro e wz ⟨rfl, rfl⟩)
                        clear HW
                        go_wp2_with fail
                        ((with_reducible refine (HMi.out _).mono ?_); rintro e wz ⟨rfl, rfl⟩)
                        clear HMi
                        go_wp2_with fail
                        ((with_reducible refine (HLe.out _).mono ?_); rintro e wz ⟨rfl, rfl⟩)
                        clear HLe
                        go_wp2_with fail
                        ((with_reducible refine (HPu.out _).mono ?_); rintro e w9 ⟨rfl, hU9⟩)
                        have HE := Lib.hid hU9
                        clear hU9 HPu
                        go_wp2
                        go_ret3
                        rw [HP2.out.1, HP2.out.2, HPM.out]
                        exact ⟨rfl, HE.out⟩
          · have hstep := dnG_step n m a 2 T (by decide)
            rw [hstep] at hD
            obtain ⟨ix, hixe⟩ : ∃ ix, a / 2 ^ (12 + 9 * 2) % 512 = ix := ⟨_, rfl⟩
            rw [hixe] at hD
            have hix : ix < 512 := by rw [← hixe]; exact Nat.mod_lt _ (by decide)
            have hix2 : a / 1073741824 % 512 = ix := hixe
            have hq : (a : Int) / 1073741824 % 512 = (ix : Int) := by omega
            have hRd := mref_Read HM.out.1 ((T : Int) * 4096 + (ix : Int) * 8) 8 (by omega) (by omega) (by decide) (by decide)
            rw [rd_ent HM.out.2 T ix hix hn2 _ (by omega)] at hRd
            have hel := ent_lt HM.out.2 T ix
            rw [show ((2 : Nat) : Int) = 2 from rfl]
            by_cases hnT : n ≤ T
            · rw [if_pos hnT] at hD hRd
              have hg : G = (0, 0, 3) := by rw [← hD]; rfl
              subst hg
              have HR := Lib.hid hRd
              clear hD hstep HD hix hixe hix2 hRd hel
              go_wp2_with fail
              ((with_reducible refine HR.out.mono ?_); rintro e wz ⟨rfl, rfl⟩)
              clear HR
              go_wp2
              go_ret3
              exact ⟨rfl, Upd.refl _ _⟩
            · rw [if_neg hnT] at hD hRd
              obtain ⟨e, he⟩ : ∃ e, ent m T ix = e := ⟨_, rfl⟩
              have hixe' : a / 2 ^ (12 + 9 * Nat.succ 1) % 512 = ix := hixe
              rw [he] at hD hRd hel
              have HR := Lib.hid hRd
              have HW := Lib.hid (fun w => rg_wrong e hel w)
              cases hb : badE e with
              | true =>
                rw [hb] at hD HW
                rw [if_pos rfl] at hD
                have hg : G = (0, 0, 2) := by rw [← hD]; rfl
                subst hg
                clear hD hstep HD hix hixe hixe' hix2 hRd he hb
                go_wp2_with fail
                ((with_reducible refine HR.out.mono ?_); rintro e wz ⟨rfl, rfl⟩)
                clear HR
                go_wp2_with fail
                ((with_reducible refine (HW.out _).mono ?_); rintro e wz ⟨rfl, rfl⟩)
                go_wp2
                go_ret3
                exact ⟨rfl, Upd.refl _ _⟩
              | false =>
                rw [hb] at hD HW
                rw [if_neg (by decide)] at hD
                have h54 : e < 18014398509481984 := by unfold badE at hb; simp at hb; omega
                have hlf10 := and10_g e hel
                cases hlf : leafE e with
                | false =>
                  rw [hlf] at hD hlf10
                  rw [if_neg (by decide)] at hD
                  have HNu := Lib.hid (fun w => rg_number e hel w)
                  have hnl := nxt_lt e
                  simp only [] at hD
                  rw [hixe', he] at hD
                  have HDN := Lib.hid hD
                  clear hD hstep HD hix hixe hixe' hix2 hRd hb hlf he
                  simp only [Bool.not_false] at hlf10
                  go_wp2_with fail
                  ((with_reducible refine HR.out.mono ?_); rintro e wz ⟨rfl, rfl⟩)
                  clear HR
                  go_wp2_with fail
                  ((with_reducible refine (HW.out _).mono ?_); rintro e wz ⟨rfl, rfl⟩)
                  clear HW
                  go_wp2_with fail
                  ((with_reducible refine (HNu.out _).mono ?_); rintro e wz ⟨rfl, rfl⟩)
                  clear HNu
                  go_wp2
                  exact ⟨⟨by first | trivial | rfl, .inl ⟨1, nxtE e, by decide, by first | trivial | rfl, by omega, by first | trivial | rfl, HDN.out⟩⟩, by simp [intOf]⟩
                | true =>
                  rw [hlf] at hD hlf10
                  rw [if_pos rfl] at hD
                  simp only [Bool.not_true] at hlf10
                  have HMi := Lib.hid (fun w => rg_misplaced e 2 hel (by decide) w)
                  cases hmi : misE e 2 with
                  | true =>
                    rw [hmi] at hD HMi
                    rw [if_pos rfl] at hD
                    have hg : G = (0, 0, 2) := by rw [← hD]; rfl
                    subst hg
                    rw [show ((2 : Nat) : Int) = 2 from rfl] at HMi
                    clear hD hstep HD hix hixe hixe' hix2 hRd hb hlf he hmi
                    go_wp2_with fail
                    ((with_reducible refine HR.out.mono ?_); rintro e wz ⟨rfl, rfl⟩)
                    clear HR
                    go_wp2_with fail
                    ((with_reducible refine (HW.out _).mono ?_); rintro e wz ⟨rfl, rfl⟩)
                    clear HW
                    go_wp2_with fail
                    ((with_reducible refine (HMi.out _).mono ?_); rintro e wz ⟨rfl, rfl⟩)
                    clear HMi
                    go_wp2
                    go_ret3
                    exact ⟨rfl, Upd.refl _ _⟩
                  | false =>
                    rw [hmi] at hD HMi
                    rw [if_neg (by decide)] at hD
                    rw [show ((2 : Nat) : Int) = 2 from rfl] at HMi
                    have HLe := Lib.hid (fun w => rg_lets e acc hel hacc w)
                    cases hle : letE e acc with
                    | false =>
                      rw [hle] at HLe
                      have hg : G = (0, 0, 2) := by rw [← hD]; unfold gOut; simp [hle]
                      subst hg
                      clear hD hstep HD hix hixe hixe' hix2 hRd hb hlf he hmi hle
                      go_wp2_with fail
                      ((with_reducible refine HR.out.mono ?_); rintro e wz ⟨rfl, rfl⟩)
                      clear HR
                      go_wp2_with fail
                      ((with_reducible refine (HW.out _).mono ?_); rintro e wz ⟨rfl, rfl⟩)
                      clear HW
                      go_wp2_with fail
                      ((with_reducible refine (HMi.out _).mono ?_); rintro e wz ⟨rfl, rfl⟩)
                      clear HMi
                      go_wp2_with fail
                      ((with_reducible refine (HLe.out _).mono ?_); rintro e wz ⟨rfl, rfl⟩)
                      clear HLe
                      go_wp2
                      go_ret3
                      exact ⟨rfl, Upd.refl _ _⟩
                    | true =>
                      rw [hle] at HLe
                      have hg : G = (plcE e 2 a, permE e, 0) := by rw [← hD]; unfold gOut; simp [hle]
                      subst hg
                      have hpu := rg_put e 2 a hel (by decide) (by omega)
                      rw [show ((2 : Nat) : Int) = 2 from rfl] at hpu
                      have HPu := Lib.hid hpu
                      obtain ⟨v4, hv4⟩ : ∃ v, (e &&& 4 == 0) = v := ⟨_, rfl⟩
                      obtain ⟨v128, hv128⟩ : ∃ v, (e &&& 128 == 0) = v := ⟨_, rfl⟩
                      obtain ⟨e4, f4⟩ := bandN e 4 hel (by decide) hv4
                      obtain ⟨e128, f128⟩ := bandN e 128 hel (by decide) hv128
                      rw [show ((4 : Nat) : Int) = 4 from rfl] at e4 f4
                      rw [show ((128 : Nat) : Int) = 128 from rfl] at e128 f128
                      have hpm := perm_u e h54 hv4 hv128
                      have h10 := i64_and_nat e 10 (by omega) (by decide)
                      have hp10 : e &&& 10 < 16 := Nat.lt_of_le_of_lt Nat.and_le_right (by decide)
                      obtain ⟨p10, hp⟩ : ∃ p, e &&& 10 = p := ⟨_, rfl⟩
                      rw [hp] at hpm h10 hp10
                      have h10o := i64_or_nat p10 4 (by omega) (by decide)
                      rw [show ((10 : Nat) : Int) = 10 from rfl] at h10
                      rw [show ((4 : Nat) : Int) = 4 from rfl] at h10o
                      obtain ⟨PM, hPM⟩ : ∃ PM, permE e = PM := ⟨_, rfl⟩
                      rw [hPM] at hpm
                      obtain ⟨PL, hPL⟩ : ∃ PL, plcE e 2 a = PL := ⟨_, rfl⟩
                      rw [hPL] at HPu
                      have HP2 := Lib.hid (And.intro hPL hPM)
                      have HPM := Lib.hid hpm
                      clear hD hstep HD hix hixe hixe' hix2 hRd hb hlf he hmi hle hv4 hv128 hp hPM hPL hpu hpm
                      rcases v4 with _ | _
                      · rcases v128 with _ | _
                        · simp only [Bool.not_false, Bool.not_true] at f4 f128
                          go_wp2_with fail
                          ((with_reducible refine HR.out.mono ?_); rintro e wz ⟨rfl, rfl⟩)
                          clear HR
                          go_wp2_with fail
                          ((with_reducible refine (HW.out _).mono ?_); rintro e wz ⟨rfl, rfl⟩)
                          clear HW
                          go_wp2_with fail
                          ((with_reducible refine (HMi.out _).mono ?_); rintro e wz ⟨rfl, rfl⟩)
                          clear HMi
                          go_wp2_with fail
                          ((with_reducible refine (HLe.out _).mono ?_); rintro e wz ⟨rfl, rfl⟩)
                          clear HLe
                          go_wp2_with fail
                          ((with_reducible refine (HPu.out _).mono ?_); rintro e w9 ⟨rfl, hU9⟩)
                          have HE := Lib.hid hU9
                          clear hU9 HPu
                          go_wp2
                          go_ret3
                          rw [HP2.out.1, HP2.out.2, HPM.out]
                          exact ⟨rfl, HE.out⟩
                        · simp only [Bool.not_false, Bool.not_true] at f4 f128
                          go_wp2_with fail
                          ((with_reducible refine HR.out.mono ?_); rintro e wz ⟨rfl, rfl⟩)
                          clear HR
                          go_wp2_with fail
                          ((with_reducible refine (HW.out _).mono ?_); rintro e wz ⟨rfl, rfl⟩)
                          clear HW
                          go_wp2_with fail
                          ((with_reducible refine (HMi.out _).mono ?_); rintro e wz ⟨rfl, rfl⟩)
                          clear HMi
                          go_wp2_with fail
                          ((with_reducible refine (HLe.out _).mono ?_); rintro e wz ⟨rfl, rfl⟩)
                          clear HLe
                          go_wp2_with fail
                          ((with_reducible refine (HPu.out _).mono ?_); rintro e w9 ⟨rfl, hU9⟩)
                          have HE := Lib.hid hU9
                          clear hU9 HPu
                          go_wp2
                          go_ret3
                          rw [HP2.out.1, HP2.out.2, HPM.out]
                          exact ⟨rfl, HE.out⟩
                      · simp only [Bool.not_true] at f4
                        clear e128 f128
                        go_wp2_with fail
                        ((with_reducible refine HR.out.mono ?_); rintro e wz ⟨rfl, rfl⟩)
                        clear HR
                        go_wp2_with fail
                        ((with_reducible refine (HW.out _).mono ?_); rintro e wz ⟨rfl, rfl⟩)
                        clear HW
                        go_wp2_with fail
                        ((with_reducible refine (HMi.out _).mono ?_); rintro e wz ⟨rfl, rfl⟩)
                        clear HMi
                        go_wp2_with fail
                        ((with_reducible refine (HLe.out _).mono ?_); rintro e wz ⟨rfl, rfl⟩)
                        clear HLe
                        go_wp2_with fail
                        ((with_reducible refine (HPu.out _).mono ?_); rintro e w9 ⟨rfl, hU9⟩)
                        have HE := Lib.hid hU9
                        clear hU9 HPu
                        go_wp2
                        go_ret3
                        rw [HP2.out.1, HP2.out.2, HPM.out]
                        exact ⟨rfl, HE.out⟩
      · go_wp2
        go_ret3
        exact ⟨rfl, Upd.refl _ _⟩
end Go.Proofs.YtonhlgfgbdiapaaGreat

/- The document's IOMMU: Access. -/
namespace Go.Proofs.YtonhlgfgbdiapaaGreat
set_option linter.unusedVariables false
set_option linter.unusedSimpArgs false
open Go.RowKit
set_option maxRecDepth 100000

theorem accA_lst {n : Nat} {m : Nat → Int} {s : Us} {room : Nat} {l : List Tr} {dev : Int} {a : Nat} {sz : Int} {wr : Bool} (h : wellA sz a = false) : accA n m s room l dev a sz wr = (0, 4, l) := by unfold accA; rw [if_pos h]
section
variable {own : Nat → Nat} {c d cm ct cd q p2 t2 n room : Nat} {w : World} {s : Us} {ms : List To4} {m : Nat → Int} {l : List Tr}
set_option maxHeartbeats 4000000 in
theorem uref_Access (hU : UrefAt own c d w q p2 t2 s ms) (hM : MemAt refK own cm w p2 0 n m) (hT : TrefAt own ct cd w t2 room l) (hcd : c ≠ d) (hcm : c ≠ cm ∧ d ≠ cm) (hct : c ≠ ct ∧ c ≠ cd ∧ d ≠ ct ∧ d ≠ cd ∧ cm ≠ ct ∧ cm ≠ cd ∧ ct ≠ cd) (hok : UsOk n s) (hl : EntsOk l)
    (dev : Int) (a : Nat) (ha : a < 18446744073709551616) (sz : Int) (hs0 : -9223372036854775808 ≤ sz) (hs1 : sz ≤ 9223372036854775807) (wr : Bool) :
    Calls Tryz.prog 77 #[.pointer (some ⟨q, 0, none⟩), .int .i64 dev, .int .u64 (a : Int), .int .i64 sz, .bool wr] w fun e w' =>
      e = .returned (.tuple #[.int .u64 ((accA n m s room l dev a sz wr).1 : Nat), .bool ((accA n m s room l dev a sz wr).2.1 == 0)]) ∧
      ∃ own', Step (fun x => x = c ∨ x = cm ∨ x = ct ∨ x = cd) own w own' w' ∧ UrefAt own' c d w' q p2 t2 (accSt s dev (accA n m s room l dev a sz wr).2.1) ms ∧ MemAt refK own' cm w' p2 0 n (accMt s m dev (accA n m s room l dev a sz wr).2.1 a) ∧ TrefAt own' ct cd w' t2 room (accA n m s room l dev a sz wr).2.2 := by
  have HTn := Lib.hid (ur_none dev w)
  obtain ⟨R, hR⟩ : ∃ R, accA n m s room l dev a sz wr = R := ⟨_, rfl⟩
  rw [hR]
  by_cases hd : 0 ≤ dev ∧ dev < 8
  · obtain ⟨k, rfl⟩ := Int.eq_ofNat_of_zero_le hd.1
    have hk8 : k < 8 := by omega
    have hde : (!decide (0 ≤ (k : Int) ∧ (k : Int) < 8)) = false := by simpa using hd
    have hrp : rootP s (k : Int) = s.rt k := by unfold rootP; rw [if_pos hd]; rfl
    have hrtl := hok.root k
    have hcr := hU.root k hk8
    obtain ⟨c0, c1, _⟩ := hU.cells
    have H0 := Lib.hid (And.intro hU (And.intro hM (And.intro hT (And.intro hl hok))))
    have HR := Lib.hid (And.intro hR hrp)
    clear hU hM hT hl hok hR hrp hd
    -- a way out that is blocked
    have hbl : ∀ (kd : Nat) (w1 : World) (own1 : Nat → Nat) (l1 : List Tr), (kd = 1 ∨ kd = 2 ∨ kd = 3 ∨ kd = 4) → R = (0, kd, l1) → Step (fun x => x = ct ∨ x = cd) own w own1 w1 → TrefAt own1 ct cd w1 t2 room l1 →
        Calls Tryz.prog 106 #[.pointer (some ⟨q, 0, none⟩), .int .i64 (k : Int), .int .i64 (kd : Int), .int .u64 (a : Int)] w1 fun e w' => e = .returned (.tuple #[]) ∧
          Hid (∃ own', Step (fun x => x = c ∨ x = cm ∨ x = ct ∨ x = cd) own w own' w' ∧ UrefAt own' c d w' q p2 t2 (accSt s (k : Int) R.2.1) ms ∧ MemAt refK own' cm w' p2 0 n (accMt s m (k : Int) R.2.1 a) ∧ TrefAt own' ct cd w' t2 room R.2.2) := by
      intro kd w1 own1 l1 hkd hRe hS hT1
      have hU1 := H0.out.1.step hS (by omega) (by omega)
      have hM1 := H0.out.2.1.step hS (by omega)
      refine (uref_blocked hU1 hM1 hcd hcm H0.out.2.2.2.2 k kd a hk8 (by omega) ha).mono ?_
      rintro e w2 ⟨rfl, own2, hS2, hU2, hM2⟩
      refine ⟨rfl, own2, (hS.mono (fun _ h => by omega)).trans (hS2.mono (fun _ h => by omega)), ?_, ?_, ?_⟩
      · rw [hRe]; simp only []; unfold accSt; rw [if_neg (by omega)]; exact hU2
      · rw [hRe]; simp only []; unfold accMt; rw [if_neg (by omega)]; exact hM2
      · rw [hRe]; exact hT1.step hS2 (by omega) (by omega)
    have HBL := Lib.hid hbl
    clear hbl
    go_enter Tryz.func77, Tryz.ntmps77
    go_wp2_with fail
    ((with_reducible refine HTn.out.mono ?_); rintro e wz ⟨rfl, rfl⟩)
    rw [hde]
    clear HTn
    go_upto_if 22 with fail
    go_cut [12, 13] (fun s12 s13 wx => s12 = .int .i64 (accW wr : Int) ∧ s13 = .int .i64 (needN (accW wr) : Int) ∧ w = wx)
    case first =>
      cases wr
      · go_wp2
        go_meet
        exact ⟨rfl, rfl, rfl⟩
      · go_wp2
        go_meet
        exact ⟨rfl, rfl, rfl⟩
    case rest =>
    obtain ⟨rfl, rfl, rfl⟩ := hcut
    go_upto_region 8 with fail
    go_cut [43] (fun s43 wx => s43 = .bool (!wellA sz a) ∧ w = wx)
    case first =>
      by_cases hok : okS sz = true
      · rcases okS_iff.1 hok with rfl | rfl | rfl | rfl
        · have hz : (a : Int) % 1 = 0 := by omega
          have hw : wellA 1 a = true := by unfold wellA; rw [show okS 1 = true from rfl]; simp [Nat.mod_one]
          go_wp2
          go_meet
          exact ⟨by rw [hw]; rfl, rfl⟩
        · by_cases hz : a % 2 = 0
          · have hz2 : (a : Int) % 2 = 0 := by omega
            have hw : wellA 2 a = true := by unfold wellA; rw [show okS 2 = true from rfl]; simp; omega
            go_wp2
            go_meet
            exact ⟨by rw [hw]; rfl, rfl⟩
          · have hz2 : ((a : Int) % 2 == 0) = false := by simp; omega
            have hz3 : ((a : Int) % 2 != 0) = true := by simp; omega
            have hw : wellA 2 a = false := by unfold wellA; rw [show okS 2 = true from rfl]; simp; omega
            go_wp2
            go_meet
            exact ⟨by rw [hw]; rfl, rfl⟩
        · by_cases hz : a % 4 = 0
          · have hz2 : (a : Int) % 4 = 0 := by omega
            have hw : wellA 4 a = true := by unfold wellA; rw [show okS 4 = true from rfl]; simp; omega
            go_wp2
            go_meet
            exact ⟨by rw [hw]; rfl, rfl⟩
          · have hz2 : ((a : Int) % 4 == 0) = false := by simp; omega
            have hz3 : ((a : Int) % 4 != 0) = true := by simp; omega
            have hw : wellA 4 a = false := by unfold wellA; rw [show okS 4 = true from rfl]; simp; omega
            go_wp2
            go_meet
            exact ⟨by rw [hw]; rfl, rfl⟩
        · by_cases hz : a % 8 = 0
          · have hz2 : (a : Int) % 8 = 0 := by omega
            have hw : wellA 8 a = true := by unfold wellA; rw [show okS 8 = true from rfl]; simp; omega
            go_wp2
            go_meet
            exact ⟨by rw [hw]; rfl, rfl⟩
          · have hz2 : ((a : Int) % 8 == 0) = false := by simp; omega
            have hz3 : ((a : Int) % 8 != 0) = true := by simp; omega
            have hw : wellA 8 a = false := by unfold wellA; rw [show okS 8 = true from rfl]; simp; omega
            go_wp2
            go_meet
            exact ⟨by rw [hw]; rfl, rfl⟩
      · have hok' : okS sz = false := by simpa using hok
        have hw : wellA sz a = false := by unfold wellA; rw [hok']; rfl
        have g1 : (sz != 1) = true := by unfold okS at hok'; simp at hok' ⊢; omega
        have g2 : (sz != 2) = true := by unfold okS at hok'; simp at hok' ⊢; omega
        have g3 : (sz != 4) = true := by unfold okS at hok'; simp at hok' ⊢; omega
        have g4 : (sz != 8) = true := by unfold okS at hok'; simp at hok' ⊢; omega
        have e1 : (sz == 1) = false := by simpa using g1
        have e2 : (sz == 2) = false := by simpa using g2
        have e3 : (sz == 4) = false := by simpa using g3
        have e4 : (sz == 8) = false := by simpa using g4
        go_wp2
        go_meet
        exact ⟨by rw [hw]; rfl, rfl⟩
    case rest =>
    obtain ⟨rfl, rfl⟩ := hcut
    cases hw : wellA sz a with
    | false =>
      have hRe : R = (0, 4, l) := by rw [← HR.out.1]; exact accA_lst hw
      have hB := HBL.out 4 w own l (by omega) hRe (Step.refl _ _ _) H0.out.2.2.1
      rw [show ((4 : Nat) : Int) = 4 from rfl] at hB
      have HB := Lib.hid hB
      have HRe := Lib.hid hRe
      clear hB hRe hw
      go_wp2_with fail
      ((with_reducible refine HB.out.mono ?_); rintro e w2 ⟨rfl, H2⟩)
      clear HB
      go_wp2
      go_ret2
      rw [HRe.out]
      exact ⟨rfl, by have := H2.out; rw [HRe.out] at this; exact this⟩
    | true =>
      by_cases hr0 : s.rt k = 0
      · have hRe : R = (0, 1, l) := by rw [← HR.out.1]; unfold accA; rw [if_neg (by rw [hw]; decide), if_pos (by rw [HR.out.2]; exact hr0)]
        have hB := HBL.out 1 w own l (by omega) hRe (Step.refl _ _ _) H0.out.2.2.1
        rw [show ((1 : Nat) : Int) = 1 from rfl] at hB
        rw [hr0, show ((0 : Nat) : Int) = 0 from rfl] at hcr
        have HB := Lib.hid hB
        have HRe := Lib.hid hRe
        clear hB hRe hw
        go_wp2_with fail
        ((with_reducible refine HB.out.mono ?_); rintro e w2 ⟨rfl, H2⟩)
        clear HB
        go_wp2
        go_ret2
        rw [HRe.out]
        exact ⟨rfl, by have := H2.out; rw [HRe.out] at this; exact this⟩
      · obtain ⟨zk, rfl, hzk, hal⟩ := wellA_iff.1 hw
        have hRl : accL n m (s.rt k) room l k a zk (accW wr) = R := by rw [← HR.out.1]; unfold accA; rw [if_neg (by rw [hw]; decide), if_neg (by rw [HR.out.2]; exact hr0), HR.out.2]; rfl
        have HRl := Lib.hid hRl
        have hrz : ((s.rt k : Int) == 0) = false := by simp; omega
        obtain ⟨root, hroot⟩ : ∃ r, s.rt k = r := ⟨_, rfl⟩
        rw [hroot] at hr0 hrtl hcr hrz HRl
        have HRt := Lib.hid hroot
        clear hRl HR hw hroot
        obtain ⟨LK, hLK⟩ : ∃ LK, lookT l (k : Int) ((a : Int) / 4096) = LK := ⟨_, rfl⟩
        have hL := tref_Look H0.out.2.2.1 (k : Int) ((a : Int) / 4096)
        rw [hLK] at hL
        have HLo := Lib.hid hL
        have HLK := Lib.hid hLK
        have hacc : accW wr = 2 ∨ accW wr = 3 := by unfold accW; split <;> simp
        generalize accW wr = acc at *
        have hnd : needN acc = 2 ∨ needN acc = 4 := by unfold needN; split <;> simp
        obtain ⟨nd, hnde⟩ : ∃ nd, needN acc = nd := ⟨_, rfl⟩
        rw [hnde] at hnd ⊢
        have HND := Lib.hid hnde
        obtain ⟨X, hX⟩ : ∃ X, LK.getD tr0 = X := ⟨_, rfl⟩
        have hXb : (0 ≤ X.f ∧ X.f < 4503599627370496) ∧ 0 ≤ X.r ∧ X.r < 16 := by
          rw [← hX]
          cases LK with
          | none => decide
          | some t => exact H0.out.2.2.2.1 t (List.mem_of_find?_eq_some hLK)
        have hsome : ∀ t, LK = some t → t = X := fun t ht => by rw [← hX, ht]; rfl
        obtain ⟨B, hB⟩ : ∃ B, LK.isSome = B := ⟨_, rfl⟩
        have HSM := Lib.hid (And.intro hsome (And.intro hB hX))
        obtain ⟨xv, xp, xf, xr⟩ := X
        rw [hX, hB] at HLo
        simp only [] at HLo hXb
        obtain ⟨f, rfl⟩ := Int.eq_ofNat_of_zero_le hXb.1.1
        obtain ⟨r, rfl⟩ := Int.eq_ofNat_of_zero_le hXb.2.1
        have hf : f < 4503599627370496 := by omega
        have hr16 : r < 16 := by omega
        have HA4 := Lib.hid (and4 r nd hr16 hnd)
        clear hL hLK hnde hX hXb hsome hB
        go_wp2_with fail
        ((with_reducible refine HLo.out.mono ?_); rintro e w1 ⟨rfl, hU1⟩)
        clear HLo
        have hst : Step (fun _ => False) own w own (w1.alloc (.cells #[.int .i64 xv, .int .u64 xp, .int .u64 (f : Int), .int .i64 (r : Int)] 153)) := (show Step (fun _ => False) own w own w1 from ⟨hU1, fun _ _ => rfl⟩).trans (step_allocS own w1 _)
        have hU2 := H0.out.1.step hst (fun h => h) (fun h => h)
        have hM2 := H0.out.2.1.step hst (fun h => h)
        have hT2 := H0.out.2.2.1.step hst (fun h => h) (fun h => h)
        have d2 := hU2.root k hk8
        rw [HRt.out] at d2
        obtain ⟨d0, d1, _⟩ := hU2.cells
        have H2 := Lib.hid (And.intro hst (And.intro hU2 (And.intro hM2 (And.intro hT2 H0.out.2.2.2.1))))
        clear hst hU2 hM2 hT2 hU1 c0 c1
        obtain ⟨HI, hHI⟩ : ∃ HI, (B && !(r &&& nd == 0)) = HI := ⟨_, rfl⟩
        go_upto_region 16 with fail
        go_cut [77] (fun s77 wx => s77 = .bool HI ∧ wx = w1.alloc (.cells #[.int .i64 xv, .int .u64 xp, .int .u64 (f : Int), .int .i64 (r : Int)] 153))
        case first =>
          subst hHI
          cases B
          · go_wp2
            go_meet
            exact ⟨rfl, rfl⟩
          · rcases Nat.eq_zero_or_pos (r &&& nd) with h | h
            · have hbit := HA4.out
              rw [h, show ((0 : Nat) : Int) = 0 from rfl] at hbit
              go_wp2
              go_meet
              exact ⟨by rw [h]; rfl, rfl⟩
            · have hbit : (bits .and .i64 (r : Int) (nd : Int) == 0) = false := by rw [HA4.out]; simp; omega
              have hbit2 : (bits .and .i64 (r : Int) (nd : Int) != 0) = true := by rw [HA4.out]; simp; omega
              go_wp2
              go_meet
              exact ⟨by simp; omega, rfl⟩
        case rest =>
        obtain ⟨rfl, rfl⟩ := hcut
        have HMS := Lib.hid hHI
        clear hHI HA4
        go_upto_if 77 with fail
        go_cut [14] (fun s14 wx => ∃ PA : Nat, s14 = .int .u64 (PA : Int) ∧ PA < 18446744073709551616 ∧ Hid (∃ own' l', Step (fun x => x = ct ∨ x = cd) own w own' wx ∧ UrefAt own' c d wx q p2 t2 s ms ∧ MemAt refK own' cm wx p2 0 n m ∧ TrefAt own' ct cd wx t2 room l' ∧ R = if hasR 0 n (PA : Int) (zk : Int) then (PA, 0, l') else (0, 3, l')))
        case first =>
          have hdiv : ((a / 4096 : Nat) : Int) = (a : Int) / 4096 := by omega
          cases HI
          · have hR2 := accL_miss (n := n) (m := m) (root := root) (room := room) (l := l) (d := k) (a := a) (size := zk) (acc := acc) (by
              intro t ht
              rw [hdiv, HLK.out] at ht
              have h1 := HMS.out
              obtain ⟨h2, h3, h4⟩ := HSM.out
              subst ht
              obtain rfl := h2 t rfl
              rw [HND.out]
              rw [← h3] at h1
              simp only [Int.toNat_natCast]
              simpa using h1)
            rw [HRl.out] at hR2
            have hG := rg_Guest (H2.out.2.2.1.step ((Step.refl (fun _ => False) own _).drew) (fun h => h)) root a acc hr0 hrtl ha (by omega)
            obtain ⟨g1, g2⟩ := guest_bd (n := n) (m := m) (a := a) (acc := acc) hr0
            obtain ⟨⟨G1, G2, G3⟩, hGG⟩ : ∃ G, guestP 0 n m root a acc = G := ⟨_, rfl⟩
            rw [hGG] at hR2 hG g1 g2
            simp only [] at hR2 hG g1 g2
            have HG := Lib.hid hG
            have HR2 := Lib.hid hR2
            clear hR2 HRl HSM HLK HMS HND hG hGG
            go_wp2_with fail
            generalize (w1.alloc (.cells #[.int .i64 xv, .int .u64 xp, .int .u64 (f : Int), .int .i64 (r : Int)] 153)) = w2 at *
            refine wpE_region (S := fun (W' : World) => W'.cell? ⟨q, 0, none⟩ = some (.pointer (some ⟨p2, 0, none⟩)) ∧ W'.cell? ⟨q, 2 + k, none⟩ = some (.int .u64 (root : Int))) (s := 19) (by kernel_rfl) ?_
            have hS : (fun (W' : World) => W'.cell? ⟨q, 0, none⟩ = some (.pointer (some ⟨p2, 0, none⟩)) ∧ W'.cell? ⟨q, 2 + k, none⟩ = some (.int .u64 (root : Int))) _ := ⟨d0, d2⟩
            refine wpE_take (i := 0) (oi := { dst := some 85, op := Go.Op.move (Go.Operand.tmp 0), type := 30, pos := "ref.go:141", after := #[], guard := none }) (v := ?_) rfl (by kernel_rfl) (fun _ _ _ h => h) (Or.inl ⟨by rfl, fun W hW => ?_⟩) hS ?_
            rotate_left
            · obtain ⟨hw1, hw2⟩ := hW; go_simp; (try go_bits); (try rw [if_pos (by omega)]); (try with_reducible rfl)
            (try simp only [Act.put, List.setIfInBounds_toArray, List.set_cons_succ, List.set_cons_zero])
            refine wpE_take (i := 1) (oi := { dst := some 86, op := Go.Op.nilCheck (Go.Operand.tmp 85), type := 0, pos := "ref.go:141", after := #[{ on := 0, ground := Go.Ground.data }], guard := none }) (v := ?_) rfl (by kernel_rfl) (fun _ _ _ h => h) (Or.inl ⟨by rfl, fun W hW => ?_⟩) hS ?_
            rotate_left
            · obtain ⟨hw1, hw2⟩ := hW; go_simp; (try go_bits); (try rw [if_pos (by omega)]); (try with_reducible rfl)
            (try simp only [Act.put, List.setIfInBounds_toArray, List.set_cons_succ, List.set_cons_zero])
            refine wpE_take (i := 2) (oi := { dst := some 87, op := Go.Op.fieldAddr 87 (Go.Operand.tmp 86) 0, type := 0, pos := "ref.go:141", after := #[{ on := 1, ground := Go.Ground.data }], guard := none }) (v := ?_) rfl (by kernel_rfl) (fun _ _ _ h => h) (Or.inl ⟨by rfl, fun W hW => ?_⟩) hS ?_
            rotate_left
            · obtain ⟨hw1, hw2⟩ := hW; go_simp; (try go_bits); (try rw [if_pos (by omega)]); (try with_reducible rfl)
            (try simp only [Act.put, List.setIfInBounds_toArray, List.set_cons_succ, List.set_cons_zero])
            refine wpE_take (i := 3) (oi := { dst := some 88, op := Go.Op.load 32 (Go.Operand.tmp 87), type := 32, pos := "ref.go:141", after := #[{ on := 2, ground := Go.Ground.data }], guard := none }) (v := ?_) rfl (by kernel_rfl) (fun _ _ _ h => h) (Or.inl ⟨by rfl, fun W hW => ?_⟩) hS ?_
            rotate_left
            · obtain ⟨hw1, hw2⟩ := hW; go_simp; (try go_bits); (try rw [if_pos (by omega)]); (try with_reducible rfl)
            (try simp only [Act.put, List.setIfInBounds_toArray, List.set_cons_succ, List.set_cons_zero])
            refine wpE_take (i := 4) (oi := { dst := some 89, op := Go.Op.move (Go.Operand.tmp 0), type := 30, pos := "ref.go:141", after := #[], guard := none }) (v := ?_) rfl (by kernel_rfl) (fun _ _ _ h => h) (Or.inl ⟨by rfl, fun W hW => ?_⟩) hS ?_
            rotate_left
            · obtain ⟨hw1, hw2⟩ := hW; go_simp; (try go_bits); (try rw [if_pos (by omega)]); (try with_reducible rfl)
            (try simp only [Act.put, List.setIfInBounds_toArray, List.set_cons_succ, List.set_cons_zero])
            refine wpE_take (i := 5) (oi := { dst := some 90, op := Go.Op.move (Go.Operand.tmp 1), type := 3, pos := "ref.go:141", after := #[], guard := none }) (v := ?_) rfl (by kernel_rfl) (fun _ _ _ h => h) (Or.inl ⟨by rfl, fun W hW => ?_⟩) hS ?_
            rotate_left
            · obtain ⟨hw1, hw2⟩ := hW; go_simp; (try go_bits); (try rw [if_pos (by omega)]); (try with_reducible rfl)
            (try simp only [Act.put, List.setIfInBounds_toArray, List.set_cons_succ, List.set_cons_zero])
            refine wpE_take (i := 6) (oi := { dst := some 91, op := Go.Op.nilCheck (Go.Operand.tmp 89), type := 0, pos := "ref.go:141", after := #[{ on := 4, ground := Go.Ground.data }], guard := none }) (v := ?_) rfl (by kernel_rfl) (fun _ _ _ h => h) (Or.inl ⟨by rfl, fun W hW => ?_⟩) hS ?_
            rotate_left
            · obtain ⟨hw1, hw2⟩ := hW; go_simp; (try go_bits); (try rw [if_pos (by omega)]); (try with_reducible rfl)
            (try simp only [Act.put, List.setIfInBounds_toArray, List.set_cons_succ, List.set_cons_zero])
            refine wpE_take (i := 7) (oi := { dst := some 92, op := Go.Op.fieldAddr 87 (Go.Operand.tmp 91) 2, type := 0, pos := "ref.go:141", after := #[{ on := 6, ground := Go.Ground.data }], guard := none }) (v := ?_) rfl (by kernel_rfl) (fun _ _ _ h => h) (Or.inl ⟨by rfl, fun W hW => ?_⟩) hS ?_
            rotate_left
            · obtain ⟨hw1, hw2⟩ := hW; go_simp; (try go_bits); (try rw [if_pos (by omega)]); (try with_reducible rfl)
            (try simp only [Act.put, List.setIfInBounds_toArray, List.set_cons_succ, List.set_cons_zero])
            refine wpE_take (i := 8) (oi := { dst := some 93, op := Go.Op.indexAddr 84 (Go.Operand.tmp 92) (Go.Operand.tmp 90), type := 0, pos := "ref.go:141", after := #[{ on := 7, ground := Go.Ground.data }, { on := 5, ground := Go.Ground.data }], guard := none }) (v := ?_) rfl (by kernel_rfl) (fun _ _ _ h => h) (Or.inl ⟨by rfl, fun W hW => ?_⟩) hS ?_
            rotate_left
            · obtain ⟨hw1, hw2⟩ := hW; go_simp; (try go_bits); (try rw [if_pos (by omega)]); (try with_reducible rfl)
            (try simp only [Act.put, List.setIfInBounds_toArray, List.set_cons_succ, List.set_cons_zero])
            refine wpE_take (i := 9) (oi := { dst := some 94, op := Go.Op.load 23 (Go.Operand.tmp 93), type := 23, pos := "ref.go:141", after := #[{ on := 8, ground := Go.Ground.data }], guard := none }) (v := ?_) rfl (by kernel_rfl) (fun _ _ _ h => h) (Or.inl ⟨by rfl, fun W hW => ?_⟩) hS ?_
            rotate_left
            · obtain ⟨hw1, hw2⟩ := hW; go_simp; (try go_bits); (try rw [if_pos (by omega)]); (try with_reducible rfl)
            (try simp only [Act.put, List.setIfInBounds_toArray, List.set_cons_succ, List.set_cons_zero])
            refine wpE_take (i := 10) (oi := { dst := some 95, op := Go.Op.move (Go.Operand.tmp 2), type := 23, pos := "ref.go:141", after := #[], guard := none }) (v := ?_) rfl (by kernel_rfl) (fun _ _ _ h => h) (Or.inl ⟨by rfl, fun W hW => ?_⟩) hS ?_
            rotate_left
            · obtain ⟨hw1, hw2⟩ := hW; go_simp; (try go_bits); (try rw [if_pos (by omega)]); (try with_reducible rfl)
            (try simp only [Act.put, List.setIfInBounds_toArray, List.set_cons_succ, List.set_cons_zero])
            refine wpE_take (i := 11) (oi := { dst := some 96, op := Go.Op.move (Go.Operand.tmp 12), type := 3, pos := "ref.go:141", after := #[], guard := none }) (v := ?_) rfl (by kernel_rfl) (fun _ _ _ h => h) (Or.inl ⟨by rfl, fun W hW => ?_⟩) hS ?_
            rotate_left
            · obtain ⟨hw1, hw2⟩ := hW; go_simp; (try go_bits); (try rw [if_pos (by omega)]); (try with_reducible rfl)
            (try simp only [Act.put, List.setIfInBounds_toArray, List.set_cons_succ, List.set_cons_zero])
            refine wpE_only (i := 12) (oi := { dst := some 97, op := Go.Op.call { callee := Go.Callee.value (Go.Operand.func 108), args := #[Go.Operand.tmp 88, Go.Operand.tmp 94, Go.Operand.tmp 95, Go.Operand.tmp 96], argTypes := #[32, 23, 23, 3] }, type := 162, pos := "ref.go:141", after := #[{ on := 3, ground := Go.Ground.data }, { on := 9, ground := Go.Ground.data }, { on := 10, ground := Go.Ground.data }, { on := 11, ground := Go.Ground.data }], guard := none }) rfl (by kernel_rfl) (by rfl) (fun K hK => ?_)
            go_simp; refine HG.out.mono ?_; rintro e w4 ⟨rfl, hU4⟩
            have hst4 : Step (fun _ => False) own w2 own w4 := (show Step (fun _ => False) own w2 own w2.drew from (Step.refl _ _ _).drew).trans ⟨hU4, fun _ _ => rfl⟩
            have hU5 := H2.out.2.1.step hst4 (fun h => h) (fun h => h)
            have hT5 := H2.out.2.2.2.1.step hst4 (fun h => h) (fun h => h)
            have H5 := Lib.hid (And.intro (H2.out.1.trans hst4) (And.intro hU5 (And.intro (H2.out.2.2.1.step hst4 (fun h => h)) hT5)))
            have f0 := hU5.cells.1
            have f1 := hU5.cells.2.1
            have f2 := hU5.root k hk8
            rw [HRt.out] at f2
            have HP := Lib.hid (tref_Put hT5 hct.2.2.2.2.2.2 ⟨k, ((a / 4096 : Nat) : Int), ((G1 / 4096 : Nat) : Int), (G2 : Int)⟩)
            clear hst4 hU5 hT5 hU4 HG
            have hS := And.intro f0 f2
            refine hK _ _ hS ?_; clear hK K
            (try simp only [Act.put, List.setIfInBounds_toArray, List.set_cons_succ, List.set_cons_zero])
            refine wpE_take (i := 13) (oi := { dst := some 84, op := Go.Op.move (Go.Operand.tmp 97), type := 162, pos := "ref.go:141", after := #[{ on := 12, ground := Go.Ground.data }], guard := none }) (v := ?_) rfl (by kernel_rfl) (fun _ _ _ h => h) (Or.inl ⟨by rfl, fun W hW => ?_⟩) hS ?_
            rotate_left
            · obtain ⟨hw1, hw2⟩ := hW; go_simp; (try go_bits); (try rw [if_pos (by omega)]); (try with_reducible rfl)
            (try simp only [Act.put, List.setIfInBounds_toArray, List.set_cons_succ, List.set_cons_zero])
            refine wpE_take (i := 14) (oi := { dst := some 98, op := Go.Op.extract (Go.Operand.tmp 84) 0, type := 23, pos := "ref.go:141", after := #[{ on := 13, ground := Go.Ground.data }], guard := none }) (v := ?_) rfl (by kernel_rfl) (fun _ _ _ h => h) (Or.inl ⟨by rfl, fun W hW => ?_⟩) hS ?_
            rotate_left
            · obtain ⟨hw1, hw2⟩ := hW; go_simp; (try go_bits); (try rw [if_pos (by omega)]); (try with_reducible rfl)
            (try simp only [Act.put, List.setIfInBounds_toArray, List.set_cons_succ, List.set_cons_zero])
            refine wpE_take (i := 15) (oi := { dst := some 99, op := Go.Op.extract (Go.Operand.tmp 84) 1, type := 3, pos := "ref.go:141", after := #[{ on := 13, ground := Go.Ground.data }, { on := 17, ground := Go.Ground.gcOnly Go.Departure.lateStores }], guard := none }) (v := ?_) rfl (by kernel_rfl) (fun _ _ _ h => h) (Or.inl ⟨by rfl, fun W hW => ?_⟩) hS ?_
            rotate_left
            · obtain ⟨hw1, hw2⟩ := hW; go_simp; (try go_bits); (try rw [if_pos (by omega)]); (try with_reducible rfl)
            (try simp only [Act.put, List.setIfInBounds_toArray, List.set_cons_succ, List.set_cons_zero])
            refine wpE_take (i := 16) (oi := { dst := some 100, op := Go.Op.extract (Go.Operand.tmp 84) 2, type := 3, pos := "ref.go:141", after := #[{ on := 13, ground := Go.Ground.data }, { on := 18, ground := Go.Ground.gcOnly Go.Departure.lateStores }], guard := none }) (v := ?_) rfl (by kernel_rfl) (fun _ _ _ h => h) (Or.inl ⟨by rfl, fun W hW => ?_⟩) hS ?_
            rotate_left
            · obtain ⟨hw1, hw2⟩ := hW; go_simp; (try go_bits); (try rw [if_pos (by omega)]); (try with_reducible rfl)
            (try simp only [Act.put, List.setIfInBounds_toArray, List.set_cons_succ, List.set_cons_zero])
            refine wpE_only (i := 17) (oi := { dst := some 17, op := Go.Op.assign (Go.Operand.tmp 98), type := 23, pos := "ref.go:141", after := #[{ on := 14, ground := Go.Ground.data }, { on := 12, ground := Go.Ground.chain }, { on := 0, ground := Go.Ground.phase }, { on := 1, ground := Go.Ground.phase }, { on := 2, ground := Go.Ground.phase }, { on := 3, ground := Go.Ground.phase }, { on := 4, ground := Go.Ground.phase }, { on := 5, ground := Go.Ground.phase }, { on := 6, ground := Go.Ground.phase }, { on := 7, ground := Go.Ground.phase }, { on := 8, ground := Go.Ground.phase }, { on := 9, ground := Go.Ground.phase }, { on := 10, ground := Go.Ground.phase }, { on := 11, ground := Go.Ground.phase }, { on := 12, ground := Go.Ground.phase }, { on := 13, ground := Go.Ground.phase }, { on := 14, ground := Go.Ground.phase }, { on := 15, ground := Go.Ground.textOnly Go.Departure.lateStores }, { on := 16, ground := Go.Ground.textOnly Go.Departure.lateStores }], guard := none }) rfl (by kernel_rfl) (by rfl) (fun K hK => ?_)
            go_simp; (try go_bits); refine hK _ _ hS ?_; clear hK K
            (try simp only [Act.put, List.setIfInBounds_toArray, List.set_cons_succ, List.set_cons_zero])
            refine wpE_only (i := 18) (oi := { dst := some 18, op := Go.Op.assign (Go.Operand.tmp 99), type := 3, pos := "ref.go:141", after := #[{ on := 15, ground := Go.Ground.data }, { on := 17, ground := Go.Ground.chain }, { on := 0, ground := Go.Ground.phase }, { on := 1, ground := Go.Ground.phase }, { on := 2, ground := Go.Ground.phase }, { on := 3, ground := Go.Ground.phase }, { on := 4, ground := Go.Ground.phase }, { on := 5, ground := Go.Ground.phase }, { on := 6, ground := Go.Ground.phase }, { on := 7, ground := Go.Ground.phase }, { on := 8, ground := Go.Ground.phase }, { on := 9, ground := Go.Ground.phase }, { on := 10, ground := Go.Ground.phase }, { on := 11, ground := Go.Ground.phase }, { on := 12, ground := Go.Ground.phase }, { on := 13, ground := Go.Ground.phase }, { on := 14, ground := Go.Ground.phase }, { on := 15, ground := Go.Ground.phase }, { on := 16, ground := Go.Ground.textOnly Go.Departure.lateStores }, { on := 17, ground := Go.Ground.phase }], guard := none }) rfl (by kernel_rfl) (by rfl) (fun K hK => ?_)
            go_simp; (try go_bits); refine hK _ _ hS ?_; clear hK K
            (try simp only [Act.put, List.setIfInBounds_toArray, List.set_cons_succ, List.set_cons_zero])
            refine wpE_last (oi := { dst := some 19, op := Go.Op.assign (Go.Operand.tmp 100), type := 3, pos := "ref.go:141", after := #[{ on := 16, ground := Go.Ground.data }, { on := 18, ground := Go.Ground.chain }, { on := 0, ground := Go.Ground.phase }, { on := 1, ground := Go.Ground.phase }, { on := 2, ground := Go.Ground.phase }, { on := 3, ground := Go.Ground.phase }, { on := 4, ground := Go.Ground.phase }, { on := 5, ground := Go.Ground.phase }, { on := 6, ground := Go.Ground.phase }, { on := 7, ground := Go.Ground.phase }, { on := 8, ground := Go.Ground.phase }, { on := 9, ground := Go.Ground.phase }, { on := 10, ground := Go.Ground.phase }, { on := 11, ground := Go.Ground.phase }, { on := 12, ground := Go.Ground.phase }, { on := 13, ground := Go.Ground.phase }, { on := 14, ground := Go.Ground.phase }, { on := 15, ground := Go.Ground.phase }, { on := 16, ground := Go.Ground.phase }, { on := 17, ground := Go.Ground.phase }, { on := 18, ground := Go.Ground.phase }], guard := none }) rfl (by kernel_rfl) (by kernel_rfl) (by rfl) (fun K hK => ?_)
            go_simp; (try go_bits); refine hK _ _ ?_; clear hK K
            clear hS
            by_cases hg : G3 = 0
            · subst hg
              have hgz : ((0 : Int) != 0) = false := rfl
              simp only [hdiv, show ((G1 / 4096 : Nat) : Int) = (G1 : Int) / 4096 from by omega] at HP
              go_wp2_with fail
              ((with_reducible refine HP.out.mono ?_); rintro e w6 ⟨rfl, own6, hS6, hT6⟩)
              have H6 := Lib.hid (And.intro ((H5.out.1.mono (C' := fun x => x = ct ∨ x = cd) (fun _ h => h.elim)).trans hS6) (And.intro (H5.out.2.1.step hS6 (by omega) (by omega)) (And.intro (H5.out.2.2.1.step hS6 (by omega)) hT6)))
              clear HP hS6 hT6
              go_wp2
              go_meet
              have h := HR2.out
              simp only [ne_eq, not_true_eq_false, if_false] at h
              refine ⟨G1, rfl, by omega, own6, _, H6.out.1, H6.out.2.1, H6.out.2.2.1, H6.out.2.2.2, ?_⟩
              simp only [hdiv, show ((G1 / 4096 : Nat) : Int) = (G1 : Int) / 4096 from by omega] at h
              exact h
            · have hgz : (G3 == 0) = false := by simpa using hg
              have hgn : (G3 != 0) = true := by simpa using hg
              have h := HR2.out
              rw [if_pos hg] at h
              have hB := HBL.out 2 w4 own l (by omega) h (H5.out.1.mono (fun _ h => h.elim)) H5.out.2.2.2
              rw [show ((2 : Nat) : Int) = 2 from rfl] at hB
              have HB := Lib.hid hB
              have HRe := Lib.hid h
              clear hB h HP HR2
              go_wp2_with fail
              ((with_reducible refine HB.out.mono ?_); rintro e w6 ⟨rfl, H6⟩)
              clear HB
              go_wp2
              go_ret2
              rw [HRe.out]
              exact ⟨rfl, by have := H6.out; rw [HRe.out] at this; exact this⟩
          · have hR2 : R = if hasR 0 n ((f * 4096 + a % 4096 : Nat) : Int) (zk : Int) then (f * 4096 + a % 4096, 0, l) else (0, 3, l) := by
              have h1 := HMS.out
              obtain ⟨h2, h3, h4⟩ := HSM.out
              cases LK with
              | none => rw [← h3] at h1; cases h1
              | some t =>
                obtain rfl := h2 t rfl
                have hq : r &&& nd ≠ 0 := by rw [← h3] at h1; simpa using h1
                rw [← HRl.out]
                exact accL_hit2 (xv := xv) (xp := xp) (f := f) (r := r) (by rw [hdiv]; exact HLK.out) (by rw [HND.out]; exact hq)
            have HR2 := Lib.hid hR2
            clear hR2 HRl HSM HLK HMS HND
            go_wp2
            go_meet
            refine ⟨f * 4096 + a % 4096, ?_, by omega, own, l, H2.out.1.mono (fun _ h => h.elim), H2.out.2.1, H2.out.2.2.1, H2.out.2.2.2.1, HR2.out⟩
            rw [show ((f * 4096 + a % 4096 : Nat) : Int) = (f : Int) * 4096 + (a : Int) % 4096 from by omega]
        case rest =>
          obtain ⟨PA, rfl, hPA, HC⟩ := hcut
          obtain ⟨own3, l3, hS3, hU3, hM3, hT3, hR3⟩ := HC.out
          obtain ⟨e0, _⟩ := hU3.cells
          have hHas := mref_Has hM3 (PA : Int) (zk : Int) (by omega) (by omega) (by omega) (by omega)
          obtain ⟨B2, hB2⟩ : ∃ B2, hasR 0 n (PA : Int) (zk : Int) = B2 := ⟨_, rfl⟩
          rw [hB2] at hHas hR3
          have HH := Lib.hid hHas
          cases B2
          · simp only [Bool.false_eq_true, if_false] at hR3
            have hB := HBL.out 3 _ own3 l3 (by omega) hR3 hS3 hT3
            rw [show ((3 : Nat) : Int) = 3 from rfl] at hB
            have HB := Lib.hid hB
            have HRe := Lib.hid hR3
            clear hB hR3 hS3 hU3 hM3 hT3 hHas hB2 HC H2 HSM HLK HMS HND HRl d0 d1 d2
            go_wp2_with fail
            ((with_reducible refine HH.out.mono ?_); rintro e wz ⟨rfl, rfl⟩)
            clear HH
            go_wp2_with fail
            ((with_reducible refine HB.out.mono ?_); rintro e w6 ⟨rfl, H6⟩)
            clear HB
            go_wp2
            go_ret2
            rw [HRe.out]
            exact ⟨rfl, by have := H6.out; rw [HRe.out] at this; exact this⟩
          · simp only [if_true] at hR3
            have HF := Lib.hid (show R = (PA, 0, l3) ∧ Step (fun x => x = c ∨ x = cm ∨ x = ct ∨ x = cd) own w own3 _ ∧ UrefAt own3 c d _ q p2 t2 s ms ∧ MemAt refK own3 cm _ p2 0 n m ∧ TrefAt own3 ct cd _ t2 room l3 from ⟨hR3, hS3.mono (fun _ h => by omega), hU3, hM3, hT3⟩)
            clear hR3 hS3 hU3 hM3 hT3 hHas hB2 HC H2 HSM HLK HMS HND HRl d0 d1 d2
            go_wp2_with fail
            ((with_reducible refine HH.out.mono ?_); rintro e wz ⟨rfl, rfl⟩)
            clear HH
            go_wp2
            go_ret2
            rw [HF.out.1]
            exact ⟨rfl, own3, HF.out.2.1, by simp only []; unfold accSt; rw [if_pos (.inl rfl)]; exact HF.out.2.2.1, by simp only []; unfold accMt; rw [if_pos (.inl rfl)]; exact HF.out.2.2.2.1, HF.out.2.2.2.2⟩
  · have hde : (!decide (0 ≤ dev ∧ dev < 8)) = true := by rw [decide_eq_false hd]; rfl
    have hk := accA_kind n m s room l dev a sz wr
    have hrp : rootP s dev = 0 := by unfold rootP; rw [if_neg hd]
    have hRe : R.1 = 0 ∧ R.2.1 ≠ 0 ∧ R.2.2 = l := by
      rw [← hR]; unfold accA
      split
      · simp
      · first | (simp; done) | (rw [if_pos hrp]; simp)
    obtain ⟨R1, R2, R3⟩ := R
    obtain ⟨rfl, h2, rfl⟩ := hRe
    simp only [] at h2 ⊢
    have e1 : accSt s dev R2 = s := by unfold accSt; rw [if_pos (.inr hd)]
    have e2 : accMt s m dev R2 a = m := by unfold accMt; rw [if_pos (.inr hd)]
    rw [e1, e2, show (R2 == 0) = false from by simpa using h2]
    have HF := Lib.hid (And.intro (Step.refl (fun x => x = c ∨ x = cm ∨ x = ct ∨ x = cd) own w) (And.intro hU (And.intro hM hT)))
    clear hU hM hT hl hok hR hk hrp e1 e2 hd
    go_enter Tryz.func77, Tryz.ntmps77
    go_wp2_with fail
    ((with_reducible refine HTn.out.mono ?_); rintro e wz ⟨rfl, rfl⟩)
    rw [hde]
    clear HTn
    go_wp2
    go_ret2
    exact ⟨rfl, own, HF.out⟩
end
end Go.Proofs.YtonhlgfgbdiapaaGreat
