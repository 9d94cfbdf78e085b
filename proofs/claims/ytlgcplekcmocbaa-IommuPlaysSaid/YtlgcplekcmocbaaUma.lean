import Derived.Test.YtlgcplekcmocbaaIoN
import Derived.Test.YtlgcplekcmocbaaTlb4
import Derived.Test.YtlgcplekcmocbaaIoR
/- The document's IOMMU (citadelref07.U): its cells; none, Set, Drop, Root, Ring. -/
namespace Go.Proofs.Ytlgcplekcmocbaa
set_option linter.unusedVariables false
set_option linter.unusedSimpArgs false
open Go.RowKit
set_option maxRecDepth 100000

section
variable {own own' : Nat → Nat} {c d q p2 t2 n cm : Nat} {w : World} {s s' : Us} {ms : List To4} {m : Nat → Int}
theorem UrefAt.cells (h : UrefAt own c d w q p2 t2 s ms) : w.cell? ⟨q, 0, none⟩ = some (.pointer (some ⟨p2, 0, none⟩)) ∧ w.cell? ⟨q, 1, none⟩ = some (.pointer (some ⟨t2, 0, none⟩)) ∧ w.cell? ⟨q, 11, none⟩ = some (.int .u64 (s.ring : Int)) ∧ w.cell? ⟨q, 12, none⟩ = some (.bool s.rd) ∧ w.cell? ⟨q, 13, none⟩ = some (.int .i64 (s.fi : Int)) ∧ w.cell? ⟨q, 14, none⟩ = some (.int .i64 (s.un : Int)) ∧ w.cell? ⟨q, 15, none⟩ = some (.bool s.ov) ∧ q < w.heap.size := by
  obtain ⟨v, hb, _⟩ := h
  exact ⟨hb.cell 0, hb.cell 1, hb.cell 11, hb.cell 12, hb.cell 13, hb.cell 14, hb.cell 15, hb.lt⟩
theorem UrefAt.froz (h : UrefAt own c d w q p2 t2 s ms) (j : Nat) : w.frozen? ⟨q, j, none⟩ = false := by
  obtain ⟨v, hb, _⟩ := h
  exact hb.frozen j
theorem UrefAt.root (h : UrefAt own c d w q p2 t2 s ms) (k : Nat) (hk : k < 8) : w.cell? ⟨q, 2 + k, none⟩ = some (.int .u64 (s.rt k : Int)) := by
  obtain ⟨v, hb, _⟩ := h
  rcases (show k = 0 ∨ k = 1 ∨ k = 2 ∨ k = 3 ∨ k = 4 ∨ k = 5 ∨ k = 6 ∨ k = 7 by omega) with rfl | rfl | rfl | rfl | rfl | rfl | rfl | rfl
  · exact hb.cell 2
  · exact hb.cell 3
  · exact hb.cell 4
  · exact hb.cell 5
  · exact hb.cell 6
  · exact hb.cell 7
  · exact hb.cell 8
  · exact hb.cell 9
theorem UrefAt.put (h : UrefAt own c d w q p2 t2 s ms) (hcd : c ≠ d) (j : Nat) (x : Value) (he : ∀ v, urC p2 t2 s' v = (urC p2 t2 s v).setIfInBounds j x) :
    Step (· = c) own w own (w.setCell ⟨q, j, none⟩ x) ∧ UrefAt own c d (w.setCell ⟨q, j, none⟩ x) q p2 t2 s' ms := by
  obtain ⟨v, hb, ho, hR⟩ := h
  have hS : Step (· = c) own w own (w.setCell ⟨q, j, none⟩ x) := ⟨(Upd.refl _ _).setCell (.inl ho) _, fun _ _ => rfl⟩
  exact ⟨hS, v, by rw [he v]; exact hb.set_ j x, ho, hR.step hS (fun e => hcd e.symm)⟩
theorem urC_rt (p2 t2 : Nat) (s : Us) (v : Value) (k r : Nat) (hk : k < 8) : urC p2 t2 (usRt s k r) v = (urC p2 t2 s v).setIfInBounds (2 + k) (.int .u64 (r : Int)) := by
  rcases (show k = 0 ∨ k = 1 ∨ k = 2 ∨ k = 3 ∨ k = 4 ∨ k = 5 ∨ k = 6 ∨ k = 7 by omega) with rfl | rfl | rfl | rfl | rfl | rfl | rfl | rfl <;> rfl
theorem ur_none (dev : Int) (w : World) : Calls Try.prog 71 #[.int .i64 dev] w fun e w' => e = .returned (.bool (!decide (0 ≤ dev ∧ dev < 8))) ∧ w = w' := by
  by_cases h0 : dev < 0
  · rw [show (!decide (0 ≤ dev ∧ dev < 8)) = true from by rw [decide_eq_false (by omega)]; rfl]
    go_enter Try.func71, Try.ntmps71
    go_wp2
    go_ret
    exact ⟨rfl, rfl⟩
  · have h0d : decide (dev < 0) = false := by simpa using h0
    by_cases h8 : 8 ≤ dev
    · rw [show (!decide (0 ≤ dev ∧ dev < 8)) = true from by rw [decide_eq_false (by omega)]; rfl]
      go_enter Try.func71, Try.ntmps71
      go_wp2
      go_ret
      exact ⟨rfl, rfl⟩
    · have h8d : decide (8 ≤ dev) = false := by simpa using h8
      rw [show (!decide (0 ≤ dev ∧ dev < 8)) = false from by rw [decide_eq_true (by omega)]; rfl]
      go_enter Try.func71, Try.ntmps71
      go_wp2
      go_ret
      exact ⟨rfl, rfl⟩
/-- what Set tells -/
def setRA (dev : Int) (x : Nat) : Int := if (0 ≤ dev ∧ dev < 8) ∧ x ≠ 0 then 0 else 1
def setSA (s : Us) (dev : Int) (x : Nat) : Us := if (0 ≤ dev ∧ dev < 8) ∧ x ≠ 0 then usRt s dev.toNat x else s
def dropRA (dev : Int) : Int := if 0 ≤ dev ∧ dev < 8 then 0 else 1
def dropSA (s : Us) (dev : Int) : Us := if 0 ≤ dev ∧ dev < 8 then usRt s dev.toNat 0 else s
theorem uref_Set (h : UrefAt own c d w q p2 t2 s ms) (hcd : c ≠ d) (dev : Int) (x : Nat) :
    Calls Try.prog 45 #[.pointer (some ⟨q, 0, none⟩), .int .i64 dev, .int .u64 (x : Int)] w fun e w' => e = .returned (.int .i64 (setRA dev x)) ∧ Step (· = c) own w own w' ∧ UrefAt own c d w' q p2 t2 (setSA s dev x) ms := by
  have HT := Lib.hid (ur_none dev w)
  by_cases hd : 0 ≤ dev ∧ dev < 8
  · have hde : (!decide (0 ≤ dev ∧ dev < 8)) = false := by simpa using hd
    obtain ⟨k, rfl⟩ := Int.eq_ofNat_of_zero_le hd.1
    by_cases hx : x = 0
    · subst hx
      have e1 : setRA (k : Int) 0 = 1 := if_neg (by omega)
      have e2 : setSA s (k : Int) 0 = s := if_neg (by omega)
      rw [e1, e2, show ((0 : Nat) : Int) = 0 from rfl]
      have HR := Lib.hid (And.intro (Step.refl (· = c) own w) h)
      clear h hd e1 e2
      go_enter Try.func45, Try.ntmps45
      go_wp2_with fail
      ((with_reducible refine HT.out.mono ?_); rintro e wz ⟨rfl, rfl⟩)
      rw [hde]
      clear HT
      go_wp2
      go_ret
      exact ⟨rfl, HR.out⟩
    · have e1 : setRA (k : Int) x = 0 := if_pos ⟨hd, hx⟩
      have e2 : setSA s (k : Int) x = usRt s k x := if_pos ⟨hd, hx⟩
      rw [e1, e2]
      have hk : k < 8 := by omega
      have hc := h.root k hk
      have hz := h.froz (2 + k)
      have hlt := h.cells.2.2.2.2.2.2.2
      have hx0 : ((x : Int) == 0) = false := by simp; omega
      have HR := Lib.hid (h.put hcd (2 + k) (.int .u64 (x : Int)) (fun v => urC_rt p2 t2 s v k x hk))
      clear h hd e1 e2
      go_enter Try.func45, Try.ntmps45
      go_wp2_with fail
      ((with_reducible refine HT.out.mono ?_); rintro e wz ⟨rfl, rfl⟩)
      rw [hde]
      clear HT
      go_wp2
      go_ret
      exact ⟨rfl, HR.out⟩
  · have hde : (!decide (0 ≤ dev ∧ dev < 8)) = true := by rw [decide_eq_false hd]; rfl
    have e1 : setRA dev x = 1 := if_neg (fun h => hd h.1)
    have e2 : setSA s dev x = s := if_neg (fun h => hd h.1)
    rw [e1, e2]
    have HR := Lib.hid (And.intro (Step.refl (· = c) own w) h)
    clear h hd e1 e2
    go_enter Try.func45, Try.ntmps45
    go_wp2_with fail
    ((with_reducible refine HT.out.mono ?_); rintro e wz ⟨rfl, rfl⟩)
    rw [hde]
    clear HT
    go_wp2
    go_ret
    exact ⟨rfl, HR.out⟩
theorem uref_Drop (h : UrefAt own c d w q p2 t2 s ms) (hcd : c ≠ d) (dev : Int) :
    Calls Try.prog 47 #[.pointer (some ⟨q, 0, none⟩), .int .i64 dev] w fun e w' => e = .returned (.int .i64 (dropRA dev)) ∧ Step (· = c) own w own w' ∧ UrefAt own c d w' q p2 t2 (dropSA s dev) ms := by
  have HT := Lib.hid (ur_none dev w)
  by_cases hd : 0 ≤ dev ∧ dev < 8
  · have hde : (!decide (0 ≤ dev ∧ dev < 8)) = false := by simpa using hd
    obtain ⟨k, rfl⟩ := Int.eq_ofNat_of_zero_le hd.1
    have e1 : dropRA (k : Int) = 0 := if_pos hd
    have e2 : dropSA s (k : Int) = usRt s k 0 := if_pos hd
    rw [e1, e2]
    have hk : k < 8 := by omega
    have hc := h.root k hk
    have hz := h.froz (2 + k)
    have hlt := h.cells.2.2.2.2.2.2.2
    have HR := Lib.hid (h.put hcd (2 + k) (.int .u64 0) (fun v => urC_rt p2 t2 s v k 0 hk))
    clear h hd e1 e2
    go_enter Try.func47, Try.ntmps47
    go_wp2_with fail
    ((with_reducible refine HT.out.mono ?_); rintro e wz ⟨rfl, rfl⟩)
    rw [hde]
    clear HT
    go_wp2
    go_ret
    exact ⟨rfl, HR.out⟩
  · have hde : (!decide (0 ≤ dev ∧ dev < 8)) = true := by rw [decide_eq_false hd]; rfl
    have e1 : dropRA dev = 1 := if_neg hd
    have e2 : dropSA s dev = s := if_neg hd
    rw [e1, e2]
    have HR := Lib.hid (And.intro (Step.refl (· = c) own w) h)
    clear h hd e1 e2
    go_enter Try.func47, Try.ntmps47
    go_wp2_with fail
    ((with_reducible refine HT.out.mono ?_); rintro e wz ⟨rfl, rfl⟩)
    rw [hde]
    clear HT
    go_wp2
    go_ret
    exact ⟨rfl, HR.out⟩
theorem uref_Root (h : UrefAt own c d w q p2 t2 s ms) (dev : Int) :
    Calls Try.prog 46 #[.pointer (some ⟨q, 0, none⟩), .int .i64 dev] w fun e w' => e = .returned (.int .u64 (rootP s dev : Int)) ∧ w = w' := by
  have HT := Lib.hid (ur_none dev w)
  by_cases hd : 0 ≤ dev ∧ dev < 8
  · have hde : (!decide (0 ≤ dev ∧ dev < 8)) = false := by simpa using hd
    obtain ⟨k, rfl⟩ := Int.eq_ofNat_of_zero_le hd.1
    rw [show rootP s (k : Int) = s.rt k from by unfold rootP; rw [if_pos hd]; rfl]
    have hk : k < 8 := by omega
    have hc := h.root k hk
    clear h hd
    go_enter Try.func46, Try.ntmps46
    go_wp2_with fail
    ((with_reducible refine HT.out.mono ?_); rintro e wz ⟨rfl, rfl⟩)
    rw [hde]
    clear HT
    go_wp2
    go_ret
    exact ⟨rfl, rfl⟩
  · have hde : (!decide (0 ≤ dev ∧ dev < 8)) = true := by rw [decide_eq_false hd]; rfl
    rw [show rootP s dev = 0 from by unfold rootP; rw [if_neg hd], show ((0 : Nat) : Int) = 0 from rfl]
    clear h hd
    go_enter Try.func46, Try.ntmps46
    go_wp2_with fail
    ((with_reducible refine HT.out.mono ?_); rintro e wz ⟨rfl, rfl⟩)
    rw [hde]
    clear HT
    go_wp2
    go_ret
    exact ⟨rfl, rfl⟩
/-- is a place one for a ring -/
def ringOk (n a : Nat) : Bool := a % 4096 == 0 && decide (a + 4096 ≤ n * 4096)
def ringS (n : Nat) (s : Us) (a : Nat) : Us := if ringOk n a then usRg s a else s
theorem ring_has {n a : Nat} (h : a % 4096 = 0) : ringOk n a = hasR 0 n (a : Int) 4096 := by
  unfold ringOk hasR
  rw [show (a % 4096 == 0) = true from by simpa using h, Bool.true_and]
  exact decide_eq_decide.2 ⟨fun h => ⟨by decide, by omega, by omega, by omega⟩, fun h => by omega⟩
theorem uref_Ring (h : UrefAt own c d w q p2 t2 s ms) (hM : MemAt refK own cm w p2 0 n m) (hcd : c ≠ d) (a : Nat) (ha : a < 18446744073709551616) :
    Calls Try.prog 55 #[.pointer (some ⟨q, 0, none⟩), .int .u64 (a : Int)] w fun e w' => e = .returned (.int .i64 (if ringOk n a then 0 else 1)) ∧ Step (· = c) own w own w' ∧ UrefAt own c d w' q p2 t2 (ringS n s a) ms := by
  obtain ⟨c0, c1, c11, c12, c13, c14, c15, hlt⟩ := h.cells
  by_cases hz : a % 4096 = 0
  · have hH := mref_Has hM (a : Int) 4096 (by omega) (by omega) (by decide) (by decide)
    rw [← ring_has hz] at hH
    have HH := Lib.hid hH
    have hz2 : (a : Int) % 4096 = 0 := by omega
    unfold ringS
    cases hr : ringOk n a with
    | false =>
      rw [hr] at HH
      have HR := Lib.hid (And.intro (Step.refl (· = c) own w) h)
      clear h hM hH hr
      go_enter Try.func55, Try.ntmps55
      go_wp2_with fail
      ((with_reducible refine HH.out.mono ?_); rintro e wz ⟨rfl, rfl⟩)
      clear HH
      go_wp2
      go_ret
      exact ⟨rfl, HR.out⟩
    | true =>
      rw [hr] at HH
      have z11 := h.froz 11
      have z12 := h.froz 12
      have z13 := h.froz 13
      have z14 := h.froz 14
      obtain ⟨g1, h1⟩ := h.put (s' := { s with ring := a }) hcd 11 (.int .u64 (a : Int)) (fun v => rfl)
      obtain ⟨g2, h2⟩ := h1.put (s' := { s with ring := a, rd := true }) hcd 12 (.bool true) (fun v => rfl)
      obtain ⟨g3, h3⟩ := h2.put (s' := { s with ring := a, rd := true, fi := 0 }) hcd 13 (.int .i64 0) (fun v => rfl)
      obtain ⟨g4, h4⟩ := h3.put (s' := usRg s a) hcd 14 (.int .i64 0) (fun v => rfl)
      have HR := Lib.hid (And.intro (((g1.trans g2).trans g3).trans g4) h4)
      clear h hM hH hr g1 g2 g3 g4 h1 h2 h3 h4
      go_enter Try.func55, Try.ntmps55
      go_wp2_with fail
      ((with_reducible refine HH.out.mono ?_); rintro e wz ⟨rfl, rfl⟩)
      clear HH
      go_wp2
      go_ret
      exact ⟨rfl, HR.out⟩
  · have hr : ringOk n a = false := by unfold ringOk; rw [show (a % 4096 == 0) = false from by simpa using hz]; rfl
    unfold ringS
    rw [hr]
    have hz2 : ((a : Int) % 4096 == 0) = false := by simp; omega
    have HR := Lib.hid (And.intro (Step.refl (· = c) own w) h)
    clear h hM hr
    go_enter Try.func55, Try.ntmps55
    go_wp2
    go_ret
    exact ⟨rfl, HR.out⟩
end
end Go.Proofs.Ytlgcplekcmocbaa

/- The document: its memory's Read; blocked, Next. -/
namespace Go.Proofs.Ytlgcplekcmocbaa
set_option linter.unusedVariables false
set_option linter.unusedSimpArgs false
open Go.RowKit
set_option maxRecDepth 100000

theorem mref_Read {own : Nat → Nat} {c p base n : Nat} {m : Nat → Int} {w : World} (h : MemAt refK own c w p base n m) (addr size : Int) (ha0 : 0 ≤ addr) (ha1 : addr < 18446744073709551616) (hs0 : -9223372036854775808 ≤ size) (hs1 : size ≤ 9223372036854775807) :
    Calls Try.prog 77 #[.pointer (some ⟨p, 0, none⟩), .int .u64 addr, .int .i64 size] w fun e w' =>
      e = .returned (.tuple #[.int .u64 (rdR base n m addr size).1, .bool (rdR base n m addr size).2]) ∧ w = w' := by
  have HW := Lib.hid (mref_right size w)
  have HH := Lib.hid (mref_Has h addr size ha0 ha1 hs0 hs1)
  by_cases h1 : okS size = true
  · by_cases h2 : hasR base n addr size = true
    · have hres : rdR base n m addr size = (num m (addr - base).toNat size.toNat, true) := by simp [rdR, h1, h2]
      rw [hres]
      obtain ⟨q1, q2, q3, q4⟩ := hasR_iff.1 h2
      obtain ⟨o, ho⟩ := Int.eq_ofNat_of_zero_le (show 0 ≤ addr - base by omega)
      obtain ⟨s, rfl⟩ := Int.eq_ofNat_of_zero_le q1
      obtain rfl : addr = ((base + o : Nat) : Int) := by omega
      have hs8 : s ≤ 8 := by have := okS_iff.1 h1; omega
      have hroom : o + s ≤ n * 4096 := by omega
      simp only [show ((base + o : Nat) : Int) - base = (o : Int) from by omega, Int.toNat_natCast]
      have hbd := h.bd
      have hsz := h.sizes
      have HR := Lib.hid h
      have HBD := Lib.hid hbd
      clear h hbd hres q1 q2 q3 q4 ho
      go_enter Try.func77, Try.ntmps77
      go_wp2_with fail
      refine HW.out.mono ?_; rintro e w' ⟨rfl, rfl⟩; rw [h1]
      go_wp2_with fail
      refine HH.out.mono ?_; rintro e w' ⟨rfl, rfl⟩; rw [h2]
      clear HW HH
      go_wp2
      go_loop [8, 9] (fun v i => ∃ (k : Nat), k ≤ s ∧ v = .int .u64 (num m (o + k) (s - k)) ∧ i = .int .i64 ((k : Int) - 1)) (fun _ i => (intOf i + 1).toNat)
      case atStart => exact ⟨s, by omega, by simp [num], rfl⟩
      case round =>
        obtain ⟨k, hk, rfl, rfl⟩ := hrel
        rcases k with _ | k
        · have h : ¬ (0 : Int) ≤ ((0 : Nat) : Int) - 1 := by omega
          go_wp2
          go_ret2
          exact ⟨by simp, rfl⟩
        · obtain ⟨hy0, hy1⟩ := HBD.out (o + k)
          have HX := Lib.hid (show num m (o + k) (s - k) = m (o + k) + 256 * num m (o + (k + 1)) (s - (k + 1)) from by
            rw [show s - k = (s - (k + 1)) + 1 from by omega]; rfl)
          have hx0 := num_nonneg HBD.out (s - (k + 1)) (o + (k + 1))
          have hx1 := num_lt7 HBD.out (o + (k + 1)) (n := s - (k + 1)) (by omega)
          generalize num m (o + (k + 1)) (s - (k + 1)) = x at *
          rw [show (((k + 1 : Nat) : Int) - 1) = (k : Int) from by omega]
          go_wp2_with fail
          refine (mref_get' HR.out (o + k) (by omega) _ (by go_num)).mono ?_; rintro e w' ⟨rfl, rfl⟩
          go_wp2
          go_round
          case rel =>
            refine ⟨k, by omega, ?_, rfl⟩
            rw [HX.out]
            congr 1
            omega
          case measure => simp [intOf]
    · have h2 : hasR base n addr size = false := by simpa using h2
      have hres : rdR base n m addr size = (0, false) := by simp [rdR, h2]
      rw [hres]
      clear h
      go_enter Try.func77, Try.ntmps77
      go_wp2_with fail
      refine HW.out.mono ?_; rintro e w' ⟨rfl, rfl⟩; rw [h1]
      go_wp2_with fail
      refine HH.out.mono ?_; rintro e w' ⟨rfl, rfl⟩; rw [h2]
      go_wp2
      go_ret2
      exact ⟨rfl, rfl⟩
  · have h1 : okS size = false := by simpa using h1
    have hres : rdR base n m addr size = (0, false) := by simp [rdR, h1]
    rw [hres]
    clear h
    go_enter Try.func77, Try.ntmps77
    go_wp2_with fail
    refine HW.out.mono ?_; rintro e w' ⟨rfl, rfl⟩; rw [h1]
    go_wp2
    go_ret2
    exact ⟨rfl, rfl⟩
section
variable {own : Nat → Nat} {c d cm q p2 t2 n : Nat} {w : World} {s : Us} {ms : List To4} {m : Nat → Int}
set_option maxHeartbeats 2000000 in
theorem uref_blocked (hU : UrefAt own c d w q p2 t2 s ms) (hM : MemAt refK own cm w p2 0 n m) (hcd : c ≠ d) (hcm : c ≠ cm ∧ d ≠ cm) (hok : UsOk n s) (k b a : Nat) (hd : k < 8) (hk : b < 8) (ha : a < 18446744073709551616) :
    Calls Try.prog 72 #[.pointer (some ⟨q, 0, none⟩), .int .i64 (k : Int), .int .i64 (b : Int), .int .u64 (a : Int)] w fun e w' => e = .returned (.tuple #[]) ∧
      ∃ own', Step (fun x => x = c ∨ x = cm) own w own' w' ∧ UrefAt own' c d w' q p2 t2 (recS s) ms ∧ MemAt refK own' cm w' p2 0 n (recM s m k b a) := by
  obtain ⟨c0, c1, c2, c3, c4, c5, c6, hlt⟩ := hU.cells
  have z5 := hU.froz 14
  have z6 := hU.froz 15
  have hsz := hM.sizes
  cases hr : recOk s with
  | false =>
    have hres : recM s m k b a = m := by unfold recM; rw [hr]; rfl
    have hre : recS s = { s with ov := true } := by unfold recS; rw [hr]; rfl
    rw [hres]
    obtain ⟨r2, r1⟩ := hU.put (s' := { s with ov := true }) hcd 15 (.bool true) (fun v => rfl)
    rw [← hre] at r1
    have HR := Lib.hid (And.intro (r2.mono (C' := fun x => x = c ∨ x = cm) (fun _ h => Or.inl h)) (And.intro r1 (hM.step r2 (fun e => hcm.1 e.symm))))
    unfold recOk at hr
    have hun := hok.un
    rcases hq : s.rd with _ | _
    · rw [hq] at c3
      clear hU hM r1 r2 hr hres hok hre
      go_enter Try.func72, Try.ntmps72
      go_wp2
      (try simp only [Exit.inBlock, Exit.then])
      exact bodyPost_ret (results_none rfl _ _ _) rfl ⟨rfl, own, HR.out⟩
    · rw [hq] at c3 hr
      have hge : decide ((255 : Int) ≤ (s.un : Int)) = true := by simp at hr ⊢; omega
      clear hU hM r1 r2 hr hres hok hre
      go_enter Try.func72, Try.ntmps72
      go_wp2
      (try simp only [Exit.inBlock, Exit.then])
      exact bodyPost_ret (results_none rfl _ _ _) rfl ⟨rfl, own, HR.out⟩
  | true =>
    obtain ⟨hA, hun, hrd⟩ := recA_in hok hr
    have hres : recM s m k b a = put (put (put m (recA s) 4 k) (recA s + 4) 4 b) (recA s + 8) 8 a := by unfold recM; rw [hr]; rfl
    have hre : recS s = { s with un := s.un + 1 } := by unfold recS; rw [hr]; rfl
    rw [hrd] at c3
    have hge : decide ((255 : Int) ≤ (s.un : Int)) = false := by simp; omega
    have hfi := hok.fi
    have hrg := hok.ring
    have hAe : recA s = s.ring + (s.fi + s.un) % 256 * 16 := rfl
    generalize recA s = A at *
    obtain ⟨w1e, _⟩ := wr_put n m A 4 rfl (by omega) (k : Int)
    obtain ⟨w2e, _⟩ := wr_put n (put m A 4 k) (A + 4) 4 rfl (by omega) (b : Int)
    obtain ⟨w3e, _⟩ := wr_put n (put (put m A 4 k) (A + 4) 4 b) (A + 8) 8 rfl (by omega) (a : Int)
    rw [show ((A + 4 : Nat) : Int) = (A : Int) + 4 from rfl] at w2e
    rw [show ((A + 8 : Nat) : Int) = (A : Int) + 8 from rfl] at w3e
    rw [show ((4 : Nat) : Int) = 4 from rfl] at w1e w2e
    rw [show ((8 : Nat) : Int) = 8 from rfl] at w3e
    rw [hres]
    have HRE := Lib.hid hre
    have hstd : Step (fun _ => False) own w own w.drew := (Step.refl _ _ _).drew
    have hW1 := mref_Write (hM.step hstd (fun h => h)) (A : Int) 4 (k : Int) (by omega) (by omega) (by decide) (by decide) (by omega) (by omega)
    rw [w1e] at hW1
    have HW1 := Lib.hid hW1
    have H0 := Lib.hid (And.intro (hstd.mono (C' := fun x => x = c ∨ x = cm) (fun _ h => h.elim)) (And.intro (hU.step hstd (fun h => h) (fun h => h)) (And.intro w2e (And.intro w3e hr))))
    have hAN : (A : Int) + 16 ≤ n * 4096 := by omega
    have hAE := Lib.hid hAe
    clear hU hM hok hres hr w1e w2e w3e hW1 hstd hAe hrd hre
    go_enter Try.func72, Try.ntmps72
    go_wp2_with fail
    refine wpE_region (S := fun (W' : World) => W'.cell? ⟨q, 11, none⟩ = some (.int .u64 (s.ring : Int)) ∧ W'.cell? ⟨q, 13, none⟩ = some (.int .i64 (s.fi : Int)) ∧ W'.cell? ⟨q, 14, none⟩ = some (.int .i64 (s.un : Int))) (s := 17) (by kernel_rfl) ?_
    have hS : (fun (W' : World) => W'.cell? ⟨q, 11, none⟩ = some (.int .u64 (s.ring : Int)) ∧ W'.cell? ⟨q, 13, none⟩ = some (.int .i64 (s.fi : Int)) ∧ W'.cell? ⟨q, 14, none⟩ = some (.int .i64 (s.un : Int))) _ := ⟨c2, c4, c5⟩
    refine wpE_take (i := 0) (oi := { dst := some 24, op := Go.Op.move (Go.Operand.tmp 0), type := 25, pos := "ref.go:96", after := #[], guard := none }) (v := ?_) rfl (by kernel_rfl) (fun _ _ _ h => h) (Or.inl ⟨by rfl, fun W hW => ?_⟩) hS ?_
    rotate_left
    · obtain ⟨hw1, hw2, hw3⟩ := hW; go_simp; (try go_bits); (try rw [if_pos (by omega)]); (try with_reducible rfl)
    (try simp only [Act.put, List.setIfInBounds_toArray, List.set_cons_succ, List.set_cons_zero])
    refine wpE_take (i := 1) (oi := { dst := some 25, op := Go.Op.nilCheck (Go.Operand.tmp 24), type := 0, pos := "ref.go:96", after := #[{ on := 0, ground := Go.Ground.data }], guard := none }) (v := ?_) rfl (by kernel_rfl) (fun _ _ _ h => h) (Or.inl ⟨by rfl, fun W hW => ?_⟩) hS ?_
    rotate_left
    · obtain ⟨hw1, hw2, hw3⟩ := hW; go_simp; (try go_bits); (try rw [if_pos (by omega)]); (try with_reducible rfl)
    (try simp only [Act.put, List.setIfInBounds_toArray, List.set_cons_succ, List.set_cons_zero])
    refine wpE_take (i := 2) (oi := { dst := some 26, op := Go.Op.fieldAddr 79 (Go.Operand.tmp 25) 4, type := 0, pos := "ref.go:96", after := #[{ on := 1, ground := Go.Ground.data }], guard := none }) (v := ?_) rfl (by kernel_rfl) (fun _ _ _ h => h) (Or.inl ⟨by rfl, fun W hW => ?_⟩) hS ?_
    rotate_left
    · obtain ⟨hw1, hw2, hw3⟩ := hW; go_simp; (try go_bits); (try rw [if_pos (by omega)]); (try with_reducible rfl)
    (try simp only [Act.put, List.setIfInBounds_toArray, List.set_cons_succ, List.set_cons_zero])
    refine wpE_take (i := 3) (oi := { dst := some 27, op := Go.Op.load 22 (Go.Operand.tmp 26), type := 22, pos := "ref.go:96", after := #[{ on := 2, ground := Go.Ground.data }], guard := none }) (v := ?_) rfl (by kernel_rfl) (fun _ _ _ h => h) (Or.inl ⟨by rfl, fun W hW => ?_⟩) hS ?_
    rotate_left
    · obtain ⟨hw1, hw2, hw3⟩ := hW; go_simp; (try go_bits); (try rw [if_pos (by omega)]); (try with_reducible rfl)
    (try simp only [Act.put, List.setIfInBounds_toArray, List.set_cons_succ, List.set_cons_zero])
    refine wpE_take (i := 4) (oi := { dst := some 28, op := Go.Op.move (Go.Operand.tmp 0), type := 25, pos := "ref.go:96", after := #[], guard := none }) (v := ?_) rfl (by kernel_rfl) (fun _ _ _ h => h) (Or.inl ⟨by rfl, fun W hW => ?_⟩) hS ?_
    rotate_left
    · obtain ⟨hw1, hw2, hw3⟩ := hW; go_simp; (try go_bits); (try rw [if_pos (by omega)]); (try with_reducible rfl)
    (try simp only [Act.put, List.setIfInBounds_toArray, List.set_cons_succ, List.set_cons_zero])
    refine wpE_take (i := 5) (oi := { dst := some 29, op := Go.Op.nilCheck (Go.Operand.tmp 28), type := 0, pos := "ref.go:96", after := #[{ on := 4, ground := Go.Ground.data }], guard := none }) (v := ?_) rfl (by kernel_rfl) (fun _ _ _ h => h) (Or.inl ⟨by rfl, fun W hW => ?_⟩) hS ?_
    rotate_left
    · obtain ⟨hw1, hw2, hw3⟩ := hW; go_simp; (try go_bits); (try rw [if_pos (by omega)]); (try with_reducible rfl)
    (try simp only [Act.put, List.setIfInBounds_toArray, List.set_cons_succ, List.set_cons_zero])
    refine wpE_take (i := 6) (oi := { dst := some 30, op := Go.Op.fieldAddr 79 (Go.Operand.tmp 29) 6, type := 0, pos := "ref.go:96", after := #[{ on := 5, ground := Go.Ground.data }], guard := none }) (v := ?_) rfl (by kernel_rfl) (fun _ _ _ h => h) (Or.inl ⟨by rfl, fun W hW => ?_⟩) hS ?_
    rotate_left
    · obtain ⟨hw1, hw2, hw3⟩ := hW; go_simp; (try go_bits); (try rw [if_pos (by omega)]); (try with_reducible rfl)
    (try simp only [Act.put, List.setIfInBounds_toArray, List.set_cons_succ, List.set_cons_zero])
    refine wpE_take (i := 7) (oi := { dst := some 31, op := Go.Op.load 3 (Go.Operand.tmp 30), type := 3, pos := "ref.go:96", after := #[{ on := 6, ground := Go.Ground.data }], guard := none }) (v := ?_) rfl (by kernel_rfl) (fun _ _ _ h => h) (Or.inl ⟨by rfl, fun W hW => ?_⟩) hS ?_
    rotate_left
    · obtain ⟨hw1, hw2, hw3⟩ := hW; go_simp; (try go_bits); (try rw [if_pos (by omega)]); (try with_reducible rfl)
    (try simp only [Act.put, List.setIfInBounds_toArray, List.set_cons_succ, List.set_cons_zero])
    refine wpE_take (i := 8) (oi := { dst := some 32, op := Go.Op.move (Go.Operand.tmp 0), type := 25, pos := "ref.go:96", after := #[], guard := none }) (v := ?_) rfl (by kernel_rfl) (fun _ _ _ h => h) (Or.inl ⟨by rfl, fun W hW => ?_⟩) hS ?_
    rotate_left
    · obtain ⟨hw1, hw2, hw3⟩ := hW; go_simp; (try go_bits); (try rw [if_pos (by omega)]); (try with_reducible rfl)
    (try simp only [Act.put, List.setIfInBounds_toArray, List.set_cons_succ, List.set_cons_zero])
    refine wpE_take (i := 9) (oi := { dst := some 33, op := Go.Op.nilCheck (Go.Operand.tmp 32), type := 0, pos := "ref.go:96", after := #[{ on := 8, ground := Go.Ground.data }], guard := none }) (v := ?_) rfl (by kernel_rfl) (fun _ _ _ h => h) (Or.inl ⟨by rfl, fun W hW => ?_⟩) hS ?_
    rotate_left
    · obtain ⟨hw1, hw2, hw3⟩ := hW; go_simp; (try go_bits); (try rw [if_pos (by omega)]); (try with_reducible rfl)
    (try simp only [Act.put, List.setIfInBounds_toArray, List.set_cons_succ, List.set_cons_zero])
    refine wpE_take (i := 10) (oi := { dst := some 34, op := Go.Op.fieldAddr 79 (Go.Operand.tmp 33) 7, type := 0, pos := "ref.go:96", after := #[{ on := 9, ground := Go.Ground.data }], guard := none }) (v := ?_) rfl (by kernel_rfl) (fun _ _ _ h => h) (Or.inl ⟨by rfl, fun W hW => ?_⟩) hS ?_
    rotate_left
    · obtain ⟨hw1, hw2, hw3⟩ := hW; go_simp; (try go_bits); (try rw [if_pos (by omega)]); (try with_reducible rfl)
    (try simp only [Act.put, List.setIfInBounds_toArray, List.set_cons_succ, List.set_cons_zero])
    refine wpE_take (i := 11) (oi := { dst := some 35, op := Go.Op.load 3 (Go.Operand.tmp 34), type := 3, pos := "ref.go:96", after := #[{ on := 10, ground := Go.Ground.data }], guard := none }) (v := ?_) rfl (by kernel_rfl) (fun _ _ _ h => h) (Or.inl ⟨by rfl, fun W hW => ?_⟩) hS ?_
    rotate_left
    · obtain ⟨hw1, hw2, hw3⟩ := hW; go_simp; (try go_bits); (try rw [if_pos (by omega)]); (try with_reducible rfl)
    (try simp only [Act.put, List.setIfInBounds_toArray, List.set_cons_succ, List.set_cons_zero])
    refine wpE_take (i := 12) (oi := { dst := some 36, op := Go.Op.binOp Go.BinOp.add 3 (Go.Operand.tmp 31) (Go.Operand.tmp 35) 3, type := 3, pos := "ref.go:96", after := #[{ on := 7, ground := Go.Ground.data }, { on := 11, ground := Go.Ground.data }], guard := none }) (v := .int .i64 ((s.fi + s.un : Nat) : Int)) rfl (by kernel_rfl) (fun _ _ _ h => h) (Or.inl ⟨by rfl, fun W hW => ?_⟩) hS ?_
    · obtain ⟨hw1, hw2, hw3⟩ := hW; go_simp; (try go_bits); (try trivial)
    (try simp only [Act.put, List.setIfInBounds_toArray, List.set_cons_succ, List.set_cons_zero])
    refine wpE_take (i := 13) (oi := { dst := some 37, op := Go.Op.binOp Go.BinOp.rem 3 (Go.Operand.tmp 36) (Go.Operand.const (Go.Value.int Go.IntKind.i64 256)) 3, type := 3, pos := "ref.go:96", after := #[{ on := 12, ground := Go.Ground.data }], guard := none }) (v := .int .i64 (((s.fi + s.un) % 256 : Nat) : Int)) rfl (by kernel_rfl) (fun _ _ _ h => h) (Or.inl ⟨by rfl, fun W hW => ?_⟩) hS ?_
    · obtain ⟨hw1, hw2, hw3⟩ := hW; go_simp; (try go_bits); (try trivial)
    (try simp only [Act.put, List.setIfInBounds_toArray, List.set_cons_succ, List.set_cons_zero])
    refine wpE_take (i := 14) (oi := { dst := some 38, op := Go.Op.binOp Go.BinOp.mul 3 (Go.Operand.const (Go.Value.int Go.IntKind.i64 16)) (Go.Operand.tmp 37) 3, type := 3, pos := "ref.go:96", after := #[{ on := 13, ground := Go.Ground.data }], guard := none }) (v := .int .i64 (((s.fi + s.un) % 256 * 16 : Nat) : Int)) rfl (by kernel_rfl) (fun _ _ _ h => h) (Or.inl ⟨by rfl, fun W hW => ?_⟩) hS ?_
    · obtain ⟨hw1, hw2, hw3⟩ := hW; go_simp; (try go_bits); (try trivial); (try omega)
    (try simp only [Act.put, List.setIfInBounds_toArray, List.set_cons_succ, List.set_cons_zero])
    refine wpE_take (i := 15) (oi := { dst := some 39, op := Go.Op.convert 3 22 (Go.Operand.tmp 38), type := 22, pos := "ref.go:96", after := #[{ on := 14, ground := Go.Ground.data }], guard := none }) (v := .int .u64 (((s.fi + s.un) % 256 * 16 : Nat) : Int)) rfl (by kernel_rfl) (fun _ _ _ h => h) (Or.inl ⟨by rfl, fun W hW => ?_⟩) hS ?_
    · obtain ⟨hw1, hw2, hw3⟩ := hW; go_simp; (try go_bits); (try trivial)
    (try simp only [Act.put, List.setIfInBounds_toArray, List.set_cons_succ, List.set_cons_zero])
    refine wpE_take (i := 16) (oi := { dst := some 40, op := Go.Op.binOp Go.BinOp.add 22 (Go.Operand.tmp 27) (Go.Operand.tmp 39) 22, type := 22, pos := "ref.go:96", after := #[{ on := 3, ground := Go.Ground.data }, { on := 15, ground := Go.Ground.data }], guard := none }) (v := .int .u64 (A : Int)) rfl (by kernel_rfl) (fun _ _ _ h => h) (Or.inl ⟨by rfl, fun W hW => ?_⟩) hS ?_
    · obtain ⟨hw1, hw2, hw3⟩ := hW; have hq := hAE.out; rw [hq]; go_simp; (try go_bits); (try rw [IntWalk.u64_in _ (by omega)]); (try trivial)
    (try simp only [Act.put, List.setIfInBounds_toArray, List.set_cons_succ, List.set_cons_zero])
    refine wpE_last (oi := { dst := some 8, op := Go.Op.assign (Go.Operand.tmp 40), type := 22, pos := "ref.go:96", after := #[{ on := 16, ground := Go.Ground.data }, { on := 0, ground := Go.Ground.phase }, { on := 1, ground := Go.Ground.phase }, { on := 2, ground := Go.Ground.phase }, { on := 3, ground := Go.Ground.phase }, { on := 4, ground := Go.Ground.phase }, { on := 5, ground := Go.Ground.phase }, { on := 6, ground := Go.Ground.phase }, { on := 7, ground := Go.Ground.phase }, { on := 8, ground := Go.Ground.phase }, { on := 9, ground := Go.Ground.phase }, { on := 10, ground := Go.Ground.phase }, { on := 11, ground := Go.Ground.phase }, { on := 12, ground := Go.Ground.phase }, { on := 13, ground := Go.Ground.phase }, { on := 14, ground := Go.Ground.phase }, { on := 15, ground := Go.Ground.phase }, { on := 16, ground := Go.Ground.phase }], guard := none }) rfl (by kernel_rfl) (by kernel_rfl) (by rfl) (fun K hK => ?_)
    go_simp; (try go_bits); refine hK _ _ ?_; clear hK K
    clear hS
    have d0 : w.drew.cell? ⟨q, 0, none⟩ = some (.pointer (some ⟨p2, 0, none⟩)) := c0
    go_wp2_with fail
    ((with_reducible refine HW1.out.mono ?_); rintro e w1 ⟨rfl, own1, hS1, hM1⟩)
    have hU1 := H0.out.2.1.step hS1 hcm.1 hcm.2
    have hW2 := mref_Write hM1 ((A : Int) + 4) 4 (b : Int) (by omega) (by omega) (by decide) (by decide) (by omega) (by omega)
    rw [H0.out.2.2.1] at hW2
    have HW2 := Lib.hid hW2
    have H1 := Lib.hid (And.intro (H0.out.1.trans (hS1.mono (C' := fun x => x = c ∨ x = cm) (fun _ h => Or.inr h))) hU1)
    have e0 := hU1.cells.1
    clear hS1 hM1 hU1 hW2 HW1 d0
    go_wp2_with fail
    ((with_reducible refine HW2.out.mono ?_); rintro e w2 ⟨rfl, own2, hS2, hM2⟩)
    have hU2 := H1.out.2.step hS2 hcm.1 hcm.2
    have hW3 := mref_Write hM2 ((A : Int) + 8) 8 (a : Int) (by omega) (by omega) (by decide) (by decide) (by omega) (by omega)
    rw [H0.out.2.2.2.1] at hW3
    have HW3 := Lib.hid hW3
    have H2 := Lib.hid (And.intro (H1.out.1.trans (hS2.mono (C' := fun x => x = c ∨ x = cm) (fun _ h => Or.inr h))) hU2)
    have f0 := hU2.cells.1
    clear hS2 hM2 hU2 hW3 HW2 e0
    go_wp2_with fail
    ((with_reducible refine HW3.out.mono ?_); rintro e w3 ⟨rfl, own3, hS3, hM3⟩)
    have hU3 := H2.out.2.step hS3 hcm.1 hcm.2
    obtain ⟨_, _, _, _, _, g5, _, gl⟩ := hU3.cells
    have gz := hU3.froz 14
    obtain ⟨r2, r1⟩ := hU3.put (s' := { s with un := s.un + 1 }) hcd 14 (.int .i64 ((s.un : Int) + 1)) (fun v => rfl)
    rw [← HRE.out] at r1
    have H3 := Lib.hid (And.intro ((H2.out.1.trans (hS3.mono (C' := fun x => x = c ∨ x = cm) (fun _ h => Or.inr h))).trans (r2.mono (fun _ h => Or.inl h))) (And.intro r1 (hM3.step r2 (fun e => hcm.1 e.symm))))
    clear hS3 hM3 hU3 HW3 f0 r1 r2 H0 H1 H2
    go_wp2
    go_end0
    exact ⟨rfl, own3, H3.out⟩
end
end Go.Proofs.Ytlgcplekcmocbaa

/- The document's IOMMU: Remap. -/
namespace Go.Proofs.Ytlgcplekcmocbaa
set_option linter.unusedVariables false
set_option linter.unusedSimpArgs false
open Go.RowKit
set_option maxRecDepth 100000

theorem to_parts : ∃ (i : TypeInfo) (z : Value), Try.prog.info? 143 = some i ∧ i.zero = some z ∧ i.size = 4 ∧ i.bytes = 32 ∧ z.cells.size = 4 := by
  have h : (Try.prog.info? 143).map (fun i => (i.zero, i.size, i.bytes)) = some (some (.agg #[.int .i64 0, .int .u64 0, .int .i64 0, .int .i64 0]), 4, 32) := by kernel_rfl
  obtain ⟨i, hi, hz, hs, hb⟩ := info_parts h
  exact ⟨i, _, hi, hz, hs, hb, rfl⟩
theorem tosC_snoc (l : List To4) (t : To4) : tosC (l ++ [t]) = tosC l ++ toC t := by simp [tosC]
theorem UrefAt.msis {own : Nat → Nat} {c d q p2 t2 : Nat} {w : World} {s : Us} {ms : List To4} (h : UrefAt own c d w q p2 t2 s ms) : ∃ A cap, w.cell? ⟨q, 10, none⟩ = some (.slice A ms.length cap) ∧ Rw 143 4 own d w (.slice A ms.length cap) ms.length (tosC ms) := by
  obtain ⟨v, hb, ho, hR⟩ := h
  obtain ⟨A, cap, rfl, _⟩ := hR.form
  exact ⟨A, cap, hb.cell 10, hR⟩
/-- a list made longer, laid -/
theorem UrefAt.lay {own own3 : Nat → Nat} {c d q p2 t2 : Nat} {w w3 : World} {s : Us} {ms ms3 : List To4} {v3 : Value} (h : UrefAt own c d w q p2 t2 s ms) (hcd : c ≠ d) (hS : Step (· = d) own w own3 w3) (hR : Rw 143 4 own3 d w3 v3 ms3.length (tosC ms3)) :
    Step (fun x => x = c ∨ x = d) own w own3 (w3.setCell ⟨q, 10, none⟩ v3) ∧ UrefAt own3 c d (w3.setCell ⟨q, 10, none⟩ v3) q p2 t2 s ms3 := by
  obtain ⟨v, hb, ho, _⟩ := h
  obtain ⟨g1, g2⟩ := hS.blk hb ho (fun e => hcd e)
  have hS2 : Step (· = c) own3 w3 own3 (w3.setCell ⟨q, 10, none⟩ v3) := ⟨(Upd.refl _ _).setCell (.inl g2) _, fun _ _ => rfl⟩
  exact ⟨(hS.mono (fun _ h => Or.inr h)).trans (hS2.mono (fun _ h => Or.inl h)), v3, g1.set_ 10 v3, g2, hR.step hS2 (fun e => hcd e.symm)⟩
/-- what Remap tells -/
def remOk (dev : Int) (k : Nat) : Bool := decide (0 ≤ dev ∧ dev < 8) && decide (k < 32)
section
variable {own : Nat → Nat} {c d q p2 t2 : Nat} {w : World} {s : Us} {ms : List To4}
set_option maxHeartbeats 2000000 in
theorem uref_Remap (h : UrefAt own c d w q p2 t2 s ms) (hcd : c ≠ d) (hms : ms.length < 4398046511104) (dev : Int) (k : Nat) (hk : k < 18446744073709551616) (g i : Int) :
    Calls Try.prog 48 #[.pointer (some ⟨q, 0, none⟩), .int .i64 dev, .int .u64 (k : Int), .agg #[.int .i64 g, .int .i64 i]] w fun e w' => e = .returned (.int .i64 (if remOk dev k then 0 else 1)) ∧
      ∃ own', Step (fun x => x = c ∨ x = d) own w own' w' ∧ UrefAt own' c d w' q p2 t2 s (if remOk dev k then ms ++ [⟨dev, k, g, i⟩] else ms) := by
  have HT := Lib.hid (fun w => ur_none dev w)
  have hstA : Step (fun _ => False) own w (ext own w (c + d + 1)) (w.alloc (.cells #[.int .i64 g, .int .i64 i] 38)) := ⟨(Upd.refl _ _).alloc _, fun b hb => ext_old _ _ _ hb⟩
  have hUA := h.step hstA (fun h => h) (fun h => h)
  by_cases hr : remOk dev k = true
  · rw [hr]
    obtain ⟨hd, hk32⟩ : (0 ≤ dev ∧ dev < 8) ∧ k < 32 := by unfold remOk at hr; simpa using hr
    have hde : (!decide (0 ≤ dev ∧ dev < 8)) = false := by simpa using hd
    have hkd : decide (31 < (k : Int)) = false := by simp; omega
    obtain ⟨A, cap, c10, hR⟩ := hUA.msis
    have z10 := hUA.froz 10
    have hlt := hUA.cells.2.2.2.2.2.2.2
    have hB := Blk.new w 38 #[.int .i64 g, .int .i64 i]
    have hoB : ext own w (c + d + 1) w.heap.size = c + d + 1 := ext_new _ _ _ (Nat.le_refl _)
    have H0 := Lib.hid (And.intro hstA (And.intro hUA (And.intro hR (And.intro hB hoB))))
    have e0 := hB.cell 0
    have e1 := hB.cell 1
    simp only [List.getElem?_toArray, List.getElem?_cons_zero, List.getElem?_cons_succ] at e0 e1
    have hlx := hB.lt
    clear h hstA hUA hR hB hoB hr
    go_enter Try.func48, Try.ntmps48
    go_wp2_with fail
    ((with_reducible refine (HT.out _).mono ?_); rintro e wz ⟨rfl, rfl⟩)
    rw [hde]
    clear HT
    generalize hxb : w.heap.size = xb at *
    generalize w.alloc (.cells #[.int .i64 g, .int .i64 i] 38) = w1 at *
    generalize ext own w (c + d + 1) = own1 at *
    obtain ⟨it, z, hi, hz, hs, hby, hzs⟩ := to_parts
    have HI := Lib.hid (And.intro hi (And.intro hz (And.intro hs (And.intro hby hzs))))
    have hsta := (step_allocS own1 w1 (.cells (toC ⟨dev, k, g, i⟩).toArray 143)).drew
    have HR2 := Lib.hid (H0.out.2.2.1.step hsta (fun h => h))
    have HU2 := Lib.hid (H0.out.2.1.step hsta (fun h => h) (fun h => h))
    have HX := Lib.hid (hsta.blk H0.out.2.2.2.1 H0.out.2.2.2.2 (fun h => h))
    have hs0 : (w1.alloc (.cells (toC ⟨dev, k, g, i⟩).toArray 143)).drew.cell? ⟨q, 10, none⟩ = some (.slice A ms.length cap) := (hsta.upd.cell (p := ⟨q, 10, none⟩) hlt (fun h => h)).trans c10
    have hs1 : (w1.alloc (.cells (toC ⟨dev, k, g, i⟩).toArray 143)).drew.cell? ⟨xb, 0, none⟩ = some (.int .i64 g) := (hsta.upd.cell (p := ⟨xb, 0, none⟩) hlx (fun h => h)).trans e0
    have hs2 : (w1.alloc (.cells (toC ⟨dev, k, g, i⟩).toArray 143)).drew.cell? ⟨xb, 1, none⟩ = some (.int .i64 i) := (hsta.upd.cell (p := ⟨xb, 1, none⟩) hlx (fun h => h)).trans e1
    have HSA := Lib.hid (And.intro hs0 (And.intro hs1 hs2))
    have HST := Lib.hid hsta
    clear hsta hs0 hs1 hs2 hi hz hs hby hzs
    go_wp2_with fail
    refine wpE_region (S := fun (W' : World) => W'.cell? ⟨q, 10, none⟩ = some (.slice A ms.length cap) ∧ W'.cell? ⟨xb, 0, none⟩ = some (.int .i64 g) ∧ W'.cell? ⟨xb, 1, none⟩ = some (.int .i64 i)) (s := 13) (by kernel_rfl) ?_
    have hS : (fun (W' : World) => W'.cell? ⟨q, 10, none⟩ = some (.slice A ms.length cap) ∧ W'.cell? ⟨xb, 0, none⟩ = some (.int .i64 g) ∧ W'.cell? ⟨xb, 1, none⟩ = some (.int .i64 i)) _ := ⟨c10, e0, e1⟩
    refine wpE_take (i := 0) (oi := { dst := some 15, op := Go.Op.move (Go.Operand.tmp 0), type := 25, pos := "ref.go:74", after := #[], guard := none }) (v := ?_) rfl (by kernel_rfl) (fun _ _ _ h => h) (Or.inl ⟨by rfl, fun W hW => ?_⟩) hS ?_
    rotate_left
    · obtain ⟨hw1, hw2, hw3⟩ := hW; go_simp; (try go_bits); (try rw [if_pos (by omega)]); (try with_reducible rfl)
    (try simp only [Act.put, List.setIfInBounds_toArray, List.set_cons_succ, List.set_cons_zero])
    refine wpE_take (i := 1) (oi := { dst := some 16, op := Go.Op.move (Go.Operand.tmp 0), type := 25, pos := "ref.go:74", after := #[], guard := none }) (v := ?_) rfl (by kernel_rfl) (fun _ _ _ h => h) (Or.inl ⟨by rfl, fun W hW => ?_⟩) hS ?_
    rotate_left
    · obtain ⟨hw1, hw2, hw3⟩ := hW; go_simp; (try go_bits); (try rw [if_pos (by omega)]); (try with_reducible rfl)
    (try simp only [Act.put, List.setIfInBounds_toArray, List.set_cons_succ, List.set_cons_zero])
    refine wpE_take (i := 2) (oi := { dst := some 17, op := Go.Op.nilCheck (Go.Operand.tmp 16), type := 0, pos := "ref.go:74", after := #[{ on := 1, ground := Go.Ground.data }], guard := none }) (v := ?_) rfl (by kernel_rfl) (fun _ _ _ h => h) (Or.inl ⟨by rfl, fun W hW => ?_⟩) hS ?_
    rotate_left
    · obtain ⟨hw1, hw2, hw3⟩ := hW; go_simp; (try go_bits); (try rw [if_pos (by omega)]); (try with_reducible rfl)
    (try simp only [Act.put, List.setIfInBounds_toArray, List.set_cons_succ, List.set_cons_zero])
    refine wpE_take (i := 3) (oi := { dst := some 18, op := Go.Op.fieldAddr 79 (Go.Operand.tmp 17) 3, type := 0, pos := "ref.go:74", after := #[{ on := 2, ground := Go.Ground.data }], guard := none }) (v := ?_) rfl (by kernel_rfl) (fun _ _ _ h => h) (Or.inl ⟨by rfl, fun W hW => ?_⟩) hS ?_
    rotate_left
    · obtain ⟨hw1, hw2, hw3⟩ := hW; go_simp; (try go_bits); (try rw [if_pos (by omega)]); (try with_reducible rfl)
    (try simp only [Act.put, List.setIfInBounds_toArray, List.set_cons_succ, List.set_cons_zero])
    refine wpE_take (i := 4) (oi := { dst := some 19, op := Go.Op.load 77 (Go.Operand.tmp 18), type := 77, pos := "ref.go:74", after := #[{ on := 3, ground := Go.Ground.data }], guard := none }) (v := ?_) rfl (by kernel_rfl) (fun _ _ _ h => h) (Or.inl ⟨by rfl, fun W hW => ?_⟩) hS ?_
    rotate_left
    · obtain ⟨hw1, hw2, hw3⟩ := hW; go_simp; (try go_bits); (try rw [if_pos (by omega)]); (try with_reducible rfl)
    (try simp only [Act.put, List.setIfInBounds_toArray, List.set_cons_succ, List.set_cons_zero])
    refine wpE_take (i := 5) (oi := { dst := some 20, op := Go.Op.move (Go.Operand.tmp 1), type := 3, pos := "ref.go:74", after := #[], guard := none }) (v := ?_) rfl (by kernel_rfl) (fun _ _ _ h => h) (Or.inl ⟨by rfl, fun W hW => ?_⟩) hS ?_
    rotate_left
    · obtain ⟨hw1, hw2, hw3⟩ := hW; go_simp; (try go_bits); (try rw [if_pos (by omega)]); (try with_reducible rfl)
    (try simp only [Act.put, List.setIfInBounds_toArray, List.set_cons_succ, List.set_cons_zero])
    refine wpE_take (i := 6) (oi := { dst := some 21, op := Go.Op.move (Go.Operand.tmp 2), type := 22, pos := "ref.go:74", after := #[], guard := none }) (v := ?_) rfl (by kernel_rfl) (fun _ _ _ h => h) (Or.inl ⟨by rfl, fun W hW => ?_⟩) hS ?_
    rotate_left
    · obtain ⟨hw1, hw2, hw3⟩ := hW; go_simp; (try go_bits); (try rw [if_pos (by omega)]); (try with_reducible rfl)
    (try simp only [Act.put, List.setIfInBounds_toArray, List.set_cons_succ, List.set_cons_zero])
    refine wpE_take (i := 7) (oi := { dst := some 22, op := Go.Op.load 38 (Go.Operand.tmp 7), type := 38, pos := "ref.go:74", after := #[], guard := none }) (v := ?_) rfl (by kernel_rfl) (fun _ _ _ h => h) (Or.inl ⟨by rfl, fun W hW => ?_⟩) hS ?_
    rotate_left
    · obtain ⟨hw1, hw2, hw3⟩ := hW; go_simp; (try go_bits); (try rw [if_pos (by omega)]); (try with_reducible rfl)
    (try simp only [Act.put, List.setIfInBounds_toArray, List.set_cons_succ, List.set_cons_zero])
    refine wpE_take (i := 8) (oi := { dst := some 23, op := Go.Op.build 143 #[(0, Go.Operand.tmp 20), (1, Go.Operand.tmp 21), (2, Go.Operand.tmp 22)], type := 143, pos := "ref.go:74", after := #[{ on := 5, ground := Go.Ground.data }, { on := 6, ground := Go.Ground.data }, { on := 7, ground := Go.Ground.data }], guard := none }) (v := ?_) rfl (by kernel_rfl) (fun _ _ _ h => h) (Or.inl ⟨by rfl, fun W hW => ?_⟩) hS ?_
    rotate_left
    · obtain ⟨hw1, hw2, hw3⟩ := hW; go_simp; (try go_bits); (try rw [if_pos (by omega)]); (try with_reducible rfl)
    (try simp only [Act.put, List.setIfInBounds_toArray, List.set_cons_succ, List.set_cons_zero])
    refine wpE_only (i := 9) (oi := { dst := some 24, op := Go.Op.buildSlice 77 1 #[(0, Go.Operand.tmp 23)], type := 77, pos := "ref.go:74", after := #[{ on := 8, ground := Go.Ground.data }], guard := none }) rfl (by kernel_rfl) (by rfl) (fun K hK => ?_)
    go_simp
    have hS := HSA.out
    refine hK _ _ hS ?_; clear hK K
    (try simp only [Act.put, List.setIfInBounds_toArray, List.set_cons_succ, List.set_cons_zero])
    refine wpE_only (i := 10) (oi := { dst := some 25, op := Go.Op.call { callee := Go.Callee.builtin Go.Builtin.append, args := #[Go.Operand.tmp 19, Go.Operand.tmp 24], argTypes := #[77, 77] }, type := 77, pos := "ref.go:74", after := #[{ on := 4, ground := Go.Ground.data }, { on := 9, ground := Go.Ground.data }], guard := none }) rfl (by kernel_rfl) (by rfl) (fun K hK => ?_)
    refine wp_append_rw (.tmp 19) (.tmp 24) _ rfl 143 it z 4 32 Try.underlying77 HI.out.1 HI.out.2.1 HI.out.2.2.1 HI.out.2.2.2.1 HI.out.2.2.2.2 (by omega) (own := own1) (d := d) (.slice A ms.length cap) _ _ rfl HR2.out (w1.heap.size + 1) (some ⟨w1.heap.size, 0, none⟩) 1 1 (toC ⟨dev, k, g, i⟩) rfl ⟨rfl, fun _ => ⟨_, rfl, Nat.lt_succ_self _, cells_new4 w1 _ _ _ _ _⟩⟩ (by simp [Value.oneCell', toC]) (by unfold maxLen; omega) (by omega) ?_
    intro v3 w3 hst3 hrow3
    have hrow3' : Rw 143 4 (ext own1 (w1.alloc (.cells (toC ⟨dev, k, g, i⟩).toArray 143)).drew d) d w3 v3 (ms ++ [(⟨dev, k, g, i⟩ : To4)]).length (tosC (ms ++ [(⟨dev, k, g, i⟩ : To4)])) := by rw [tosC_snoc, List.length_append]; exact hrow3
    have H3 := Lib.hid (HU2.out.lay hcd hst3 hrow3')
    obtain ⟨vq, hbq, hoq, _⟩ := HU2.out
    obtain ⟨hbq3, _⟩ := hst3.blk hbq hoq (fun e => hcd e)
    have hcq := (hst3.upd.cell (p := ⟨q, 10, none⟩) hbq.lt (by show ¬ own1 q = d; rw [hoq]; exact hcd)).trans HSA.out.1
    have hzq := hbq3.frozen 10
    have hlq := hbq3.lt
    obtain ⟨A3, cap3, hv3, _⟩ := hrow3.form
    subst hv3
    have hX3 := (hst3.blk HX.out.1 HX.out.2 (by omega)).1
    have f0 := hX3.cell 0
    have f1 := hX3.cell 1
    simp only [List.getElem?_toArray, List.getElem?_cons_zero, List.getElem?_cons_succ] at f0 f1
    have hS := And.intro hcq (And.intro f0 f1)
    clear hst3 hrow3 hrow3' hbq hbq3 hoq hX3 f0 f1
    refine hK _ _ hS ?_; clear hK K
    (try simp only [Act.put, List.setIfInBounds_toArray, List.set_cons_succ, List.set_cons_zero])
    refine wpE_take (i := 11) (oi := { dst := some 26, op := Go.Op.nilCheck (Go.Operand.tmp 15), type := 0, pos := "ref.go:74", after := #[{ on := 0, ground := Go.Ground.data }, { on := 0, ground := Go.Ground.phase }, { on := 1, ground := Go.Ground.phase }, { on := 2, ground := Go.Ground.phase }, { on := 3, ground := Go.Ground.phase }, { on := 4, ground := Go.Ground.phase }, { on := 5, ground := Go.Ground.phase }, { on := 6, ground := Go.Ground.phase }, { on := 7, ground := Go.Ground.phase }, { on := 8, ground := Go.Ground.phase }, { on := 9, ground := Go.Ground.phase }, { on := 10, ground := Go.Ground.phase }], guard := none }) (v := ?_) rfl (by kernel_rfl) (fun _ _ _ h => h) (Or.inl ⟨by rfl, fun W hW => ?_⟩) hS ?_
    rotate_left
    · obtain ⟨hw1, hw2, hw3⟩ := hW; go_simp; (try go_bits); (try rw [if_pos (by omega)]); (try with_reducible rfl)
    (try simp only [Act.put, List.setIfInBounds_toArray, List.set_cons_succ, List.set_cons_zero])
    refine wpE_take (i := 12) (oi := { dst := some 27, op := Go.Op.fieldAddr 79 (Go.Operand.tmp 26) 3, type := 0, pos := "ref.go:74", after := #[{ on := 11, ground := Go.Ground.data }, { on := 0, ground := Go.Ground.phase }, { on := 1, ground := Go.Ground.phase }, { on := 2, ground := Go.Ground.phase }, { on := 3, ground := Go.Ground.phase }, { on := 4, ground := Go.Ground.phase }, { on := 5, ground := Go.Ground.phase }, { on := 6, ground := Go.Ground.phase }, { on := 7, ground := Go.Ground.phase }, { on := 8, ground := Go.Ground.phase }, { on := 9, ground := Go.Ground.phase }, { on := 10, ground := Go.Ground.phase }], guard := none }) (v := ?_) rfl (by kernel_rfl) (fun _ _ _ h => h) (Or.inl ⟨by rfl, fun W hW => ?_⟩) hS ?_
    rotate_left
    · obtain ⟨hw1, hw2, hw3⟩ := hW; go_simp; (try go_bits); (try rw [if_pos (by omega)]); (try with_reducible rfl)
    (try simp only [Act.put, List.setIfInBounds_toArray, List.set_cons_succ, List.set_cons_zero])
    refine wpE_last (oi := { dst := none, op := Go.Op.store 77 (Go.Operand.tmp 27) (Go.Operand.tmp 25), type := 0, pos := "ref.go:74", after := #[{ on := 12, ground := Go.Ground.data }, { on := 10, ground := Go.Ground.data }, { on := 10, ground := Go.Ground.chain }, { on := 0, ground := Go.Ground.phase }, { on := 1, ground := Go.Ground.phase }, { on := 2, ground := Go.Ground.phase }, { on := 3, ground := Go.Ground.phase }, { on := 4, ground := Go.Ground.phase }, { on := 5, ground := Go.Ground.phase }, { on := 6, ground := Go.Ground.phase }, { on := 7, ground := Go.Ground.phase }, { on := 8, ground := Go.Ground.phase }, { on := 9, ground := Go.Ground.phase }, { on := 10, ground := Go.Ground.phase }], guard := none }) rfl (by kernel_rfl) (by kernel_rfl) (by rfl) (fun K hK => ?_)
    go_simp; refine hK _ _ ?_; clear hK K
    clear hS
    go_wp2
    go_ret
    exact ⟨rfl, _, ((H0.out.1.trans HST.out).mono (C' := fun x => x = c ∨ x = d) (fun _ h => h.elim)).trans H3.out.1, H3.out.2⟩
  · have hr' : remOk dev k = false := by simpa using hr
    rw [hr']
    have HR := Lib.hid (And.intro (hstA.mono (C' := fun x => x = c ∨ x = d) (fun _ h => h.elim)) hUA)
    clear h hstA hUA hr
    by_cases hd : 0 ≤ dev ∧ dev < 8
    · have hde : (!decide (0 ≤ dev ∧ dev < 8)) = false := by simpa using hd
      have hkd : decide (31 < (k : Int)) = true := by unfold remOk at hr'; simp at hr' ⊢; omega
      clear hr' hd
      go_enter Try.func48, Try.ntmps48
      go_wp2_with fail
      ((with_reducible refine (HT.out _).mono ?_); rintro e wz ⟨rfl, rfl⟩)
      rw [hde]
      clear HT
      go_wp2
      go_ret
      exact ⟨rfl, _, HR.out⟩
    · have hde : (!decide (0 ≤ dev ∧ dev < 8)) = true := by rw [decide_eq_false hd]; rfl
      clear hr' hd
      go_enter Try.func48, Try.ntmps48
      go_wp2_with fail
      ((with_reducible refine (HT.out _).mono ?_); rintro e wz ⟨rfl, rfl⟩)
      rw [hde]
      clear HT
      go_wp2
      go_ret
      exact ⟨rfl, _, HR.out⟩
end
end Go.Proofs.Ytlgcplekcmocbaa

/- The document's IOMMU: Message. -/
namespace Go.Proofs.Ytlgcplekcmocbaa
set_option linter.unusedVariables false
set_option linter.unusedSimpArgs false
open Go.RowKit
set_option maxRecDepth 100000

/-- where a message of an index goes, last said -/
def msStep (dev data : Int) (acc : Int × Int) (t : To4) : Int × Int := if t.d = dev ∧ t.i = data then (t.g, t.q) else acc
def msL (ms : List To4) (dev data : Int) : Int × Int := ms.foldl (msStep dev data) (0, 0)
theorem msL_snoc (ms : List To4) (t : To4) (dev data : Int) : msL (ms ++ [t]) dev data = if t.d = dev ∧ t.i = data then (t.g, t.q) else msL ms dev data := by
  unfold msL; rw [List.foldl_append]; rfl
theorem msL_take {ms : List To4} {k : Nat} {t : To4} (h : ms[k]? = some t) (dev data : Int) : msL (ms.take (k + 1)) dev data = if t.d = dev ∧ t.i = data then (t.g, t.q) else msL (ms.take k) dev data := by
  rw [List.take_add_one, h]
  exact msL_snoc _ _ _ _
theorem tosC_at : ∀ (l : List To4) (k : Nat) (t : To4), l[k]? = some t → (tosC l)[k * 4]? = some (.int .i64 t.d) ∧ (tosC l)[k * 4 + 1]? = some (.int .u64 t.i) ∧ (tosC l)[k * 4 + 2]? = some (.int .i64 t.g) ∧ (tosC l)[k * 4 + 3]? = some (.int .i64 t.q) := by
  intro l
  induction l with
  | nil => intro k t h; cases h
  | cons x l ih =>
    intro k t h
    cases k with
    | zero =>
      simp at h; subst h
      exact ⟨rfl, rfl, rfl, rfl⟩
    | succ k =>
      have hk := ih k t (by simpa using h)
      have e : ∀ j, (tosC (x :: l))[(k + 1) * 4 + j]? = (tosC l)[k * 4 + j]? := by
        intro j
        show (toC x ++ tosC l)[(k + 1) * 4 + j]? = _
        rw [List.getElem?_append_right (by simp [toC]; omega)]
        congr 1
        simp [toC]; omega
      exact ⟨(e 0).trans hk.1, (e 1).trans hk.2.1, (e 2).trans hk.2.2.1, (e 3).trans hk.2.2.2⟩
/-- is a message one that goes somewhere -/
def msgOk (ms : List To4) (dev : Int) (a : Nat) (data : Int) : Bool := decide (0 ≤ dev ∧ dev < 8) && (a == 4276092928 && (msL ms dev data).1 != 0)
def msgV (ms : List To4) (dev : Int) (a : Nat) (data : Int) : Int × Int := if msgOk ms dev a data then msL ms dev data else (0, 0)
def msgS (s : Us) (ms : List To4) (dev : Int) (a : Nat) (data : Int) : Us := if msgOk ms dev a data then s else accSt s dev 5
def msgM (s : Us) (m : Nat → Int) (ms : List To4) (dev : Int) (a : Nat) (data : Int) : Nat → Int := if msgOk ms dev a data then m else accMt s m dev 5 a
section
variable {own : Nat → Nat} {c d cm q p2 t2 n : Nat} {w : World} {s : Us} {ms : List To4} {m : Nat → Int}
theorem upd_set2 {w wr : World} {r : Nat} (h : Upd (fun _ => False) w wr) (hr : w.heap.size ≤ r) (u v : Value) : Upd (fun _ => False) w ((wr.setCell ⟨r, 0, none⟩ u).setCell ⟨r, 1, none⟩ v) :=
  (h.setCell (p := ⟨r, 0, none⟩) (.inr hr) u).setCell (p := ⟨r, 1, none⟩) (.inr hr) v
set_option maxHeartbeats 4000000 in
theorem uref_Message (hU : UrefAt own c d w q p2 t2 s ms) (hM : MemAt refK own cm w p2 0 n m) (hcd : c ≠ d) (hcm : c ≠ cm ∧ d ≠ cm) (hok : UsOk n s) (hms : ms.length < 4398046511104) (dev : Int) (a : Nat) (data : Int) (ha : a < 18446744073709551616) :
    Calls Try.prog 44 #[.pointer (some ⟨q, 0, none⟩), .int .i64 dev, .int .u64 (a : Int), .int .u64 data] w fun e w' =>
      e = .returned (.tuple #[.agg #[.int .i64 (msgV ms dev a data).1, .int .i64 (msgV ms dev a data).2], .bool (msgOk ms dev a data)]) ∧
      ∃ own', Step (fun x => x = c ∨ x = cm) own w own' w' ∧ UrefAt own' c d w' q p2 t2 (msgS s ms dev a data) ms ∧ MemAt refK own' cm w' p2 0 n (msgM s m ms dev a data) := by
  have HT := Lib.hid (fun w => ur_none dev w)
  obtain ⟨K, hK⟩ : ∃ K, K = c + d + cm + 1 := ⟨_, rfl⟩
  have hst0 : Step (fun _ => False) own w (ext own w K) (w.alloc (.cells #[.int .i64 0, .int .i64 0] 38)) := ⟨(Upd.refl _ _).alloc _, fun b hb => ext_old _ _ _ hb⟩
  have hB0 := Blk.new w 38 #[.int .i64 0, .int .i64 0]
  have ho0 : ext own w K w.heap.size = K := ext_new _ _ _ (Nat.le_refl _)
  by_cases hd : 0 ≤ dev ∧ dev < 8
  · obtain ⟨k0, rfl⟩ := Int.eq_ofNat_of_zero_le hd.1
    have hk08 : k0 < 8 := by omega
    have hde : (!decide (0 ≤ (k0 : Int) ∧ (k0 : Int) < 8)) = false := by simpa using hd
    have hst1 : Step (fun _ => False) (ext own w K) (w.alloc (.cells #[.int .i64 0, .int .i64 0] 38)) (ext (ext own w K) (w.alloc (.cells #[.int .i64 0, .int .i64 0] 38)) K) ((w.alloc (.cells #[.int .i64 0, .int .i64 0] 38)).alloc (.cells #[.int .i64 0, .int .i64 0] 38)) := ⟨(Upd.refl _ _).alloc _, fun b hb => ext_old _ _ _ hb⟩
    have hX1 := Blk.new (w.alloc (.cells #[.int .i64 0, .int .i64 0] 38)) 38 #[.int .i64 0, .int .i64 0]
    have hoX1 : ext (ext own w K) (w.alloc (.cells #[.int .i64 0, .int .i64 0] 38)) K (w.alloc (.cells #[.int .i64 0, .int .i64 0] 38)).heap.size = K := ext_new _ _ _ (Nat.le_refl _)
    obtain ⟨hB1, hoB1⟩ := hst1.blk hB0 ho0 (fun h => h)
    have hst := hst0.trans hst1
    have hU1 := hU.step hst (fun h => h) (fun h => h)
    have hM1 := hM.step hst (fun h => h)
    rw [World.size_alloc] at hX1 hoX1
    have H0 := Lib.hid (And.intro hst (And.intro hU1 (And.intro hM1 (And.intro (And.intro hB1 hoB1) (And.intro hX1 hoX1)))))
    have HOK := Lib.hid hok
    have hlx : w.heap.size + 1 < ((w.alloc (.cells #[.int .i64 0, .int .i64 0] 38)).alloc (.cells #[.int .i64 0, .int .i64 0] 38)).heap.size := hX1.lt
    clear hU hM hst0 hB0 ho0 hst1 hX1 hoX1 hB1 hoB1 hst hU1 hM1 hd hok
    go_enter Try.func44, Try.ntmps44
    go_wp2_with fail
    ((with_reducible refine (HT.out _).mono ?_); rintro e wz ⟨rfl, rfl⟩)
    rw [hde]
    clear HT
    go_wp2
    generalize ext (ext own w K) (w.alloc (.cells #[.int .i64 0, .int .i64 0] 38)) K = own1 at *
    generalize ((w.alloc (.cells #[.int .i64 0, .int .i64 0] 38)).alloc (.cells #[.int .i64 0, .int .i64 0] 38)) = w1 at *
    generalize hrb : w.heap.size = rb at *
    obtain ⟨A, cap, _, hRW⟩ := H0.out.2.1.msis
    have HRW := Lib.hid (hRW.reads rfl)
    clear hRW
    go_loopw [11] (fun i wr => ∃ (k : Nat), k ≤ ms.length ∧ i = .int .i64 (k : Int) ∧ Hid (Upd (· = rb + 1) w1 wr ∧ Blk wr rb 38 #[.int .i64 0, .int .i64 0] ∧ Blk wr (rb + 1) 38 #[.int .i64 (msL (ms.take k) k0 data).1, .int .i64 (msL (ms.take k) k0 data).2])) (fun i _ => ms.length - (intOf i).toNat)
    case atStart => exact ⟨0, by omega, rfl, Upd.refl _ _, H0.out.2.2.2.1.1, H0.out.2.2.2.2.1⟩
    case round =>
      rename World => wr
      obtain ⟨k, hk, rfl, HL⟩ := hrel
      obtain ⟨hUp, hBr, hBx⟩ := HL.out
      have hS : Step (· = K) own1 w1 own1 wr := ⟨hUp.mono (fun i hi e => by rw [e]; exact H0.out.2.2.2.2.2), fun _ _ => rfl⟩
      have hUr := H0.out.2.1.step hS (by omega) (by omega)
      obtain ⟨A', cap', c10, hR'⟩ := hUr.msis
      have hlt0 := hUr.cells.2.2.2.2.2.2.2
      have x0 := hBx.cell 0
      have x1 := hBx.cell 1
      simp only [List.getElem?_toArray, List.getElem?_cons_zero, List.getElem?_cons_succ] at x0 x1
      have zx0 := hBx.frozen 0
      have zx1 := hBx.frozen 1
      have hlxr := hBx.lt
      by_cases hlt : k < ms.length
      · have hlt' : (k : Int) < (ms.length : Int) := by omega
        have hget : ms[k]? = some ms[k] := List.getElem?_eq_getElem hlt
        obtain ⟨b, o, rfl, hbl, hc⟩ := (hR'.reads rfl).first (by omega) (by decide)
        obtain ⟨q0, q1, q2, q3⟩ := tosC_at ms k _ hget
        have d0 := hc _ _ q0
        have d1 := hc _ _ q1
        have d2 := hc _ _ q2
        have d3 := hc _ _ q3
        simp only [← Nat.add_assoc] at d1 d2 d3
        have hstep := msL_take hget (k0 : Int) data
        generalize ms[k] = t at *
        obtain ⟨td, ti, tg, tq⟩ := t
        simp only [] at d0 d1 d2 d3 hstep
        have HN := Lib.hid (And.intro hUp (And.intro hBr (And.intro hBx hstep)))
        clear hUp hS hBr hBx hUr hR' hget hc q0 q1 q2 q3 hstep HL
        by_cases h1 : td = (k0 : Int)
        · subst h1
          by_cases h2 : ti = data
          · subst h2
            have hm : msL (ms.take (k + 1)) k0 ti = (tg, tq) := by rw [HN.out.2.2.2, if_pos ⟨rfl, rfl⟩]
            have HM := Lib.hid hm
            clear hm
            go_wp2
            refine ⟨⟨k + 1, by omega, by go_num, ?_⟩, by simp [intOf]; omega⟩
            refine Lib.hid ⟨(HN.out.1.setCell (p := ⟨rb + 1, 0, none⟩) (.inl rfl) _).setCell (p := ⟨rb + 1, 1, none⟩) (.inl rfl) _, ?_, ?_⟩
            · exact (HN.out.2.1.far (p := ⟨rb + 1, 0, none⟩) (by show rb ≠ rb + 1; omega) _).far (p := ⟨rb + 1, 1, none⟩) (by show rb ≠ rb + 1; omega) _
            · rw [HM.out]; exact (HN.out.2.2.1.set_ 0 (.int .i64 tg)).set_ 1 (.int .i64 tq)
          · have h2d : (ti == data) = false := by simpa using h2
            have hm : msL (ms.take (k + 1)) k0 data = msL (ms.take k) k0 data := by rw [HN.out.2.2.2, if_neg (fun h => h2 h.2)]
            have HM := Lib.hid hm
            clear hm
            go_wp2
            exact ⟨⟨k + 1, by omega, by go_num, HN.out.1, HN.out.2.1, by rw [HM.out]; exact HN.out.2.2.1⟩, by simp [intOf]; omega⟩
        · have h1d : (td == (k0 : Int)) = false := by simpa using h1
          have hm : msL (ms.take (k + 1)) k0 data = msL (ms.take k) k0 data := by rw [HN.out.2.2.2, if_neg (fun h => h1 h.1)]
          have HM := Lib.hid hm
          clear hm
          go_wp2
          exact ⟨⟨k + 1, by omega, by go_num, HN.out.1, HN.out.2.1, by rw [HM.out]; exact HN.out.2.2.1⟩, by simp [intOf]; omega⟩
      · obtain rfl : k = ms.length := by omega
        rw [List.take_length] at hBx x0 x1
        obtain ⟨⟨M1, M2⟩, hMe⟩ : ∃ M, msL ms k0 data = M := ⟨_, rfl⟩
        rw [hMe] at hBx x0 x1
        simp only [] at hBx x0 x1
        have hUf : Upd (fun _ => False) w wr := H0.out.1.upd.trans' hUp (fun i hi e => by omega)
        have hMr := H0.out.2.2.1.step hS (by omega)
        have zr0 := hBr.frozen 0
        have zr1 := hBr.frozen 1
        have y0 := hBr.cell 0
        have y1 := hBr.cell 1
        simp only [List.getElem?_toArray, List.getElem?_cons_zero, List.getElem?_cons_succ] at y0 y1
        have hlr := hBr.lt
        by_cases hgood : a = 4276092928 ∧ M1 ≠ 0
        · obtain ⟨rfl, hM1⟩ := hgood
          have hdd : decide (0 ≤ (k0 : Int) ∧ (k0 : Int) < 8) = true := decide_eq_true ⟨by omega, by omega⟩
          have hok1 : msgOk ms k0 4276092928 data = true := by unfold msgOk; rw [hMe, hdd]; simpa using hM1
          have hv1 : msgV ms k0 4276092928 data = (M1, M2) := by unfold msgV; rw [hok1, hMe]; rfl
          have hv2 : msgS s ms k0 4276092928 data = s := by unfold msgS; rw [hok1]; rfl
          have hv3 : msgM s m ms k0 4276092928 data = m := by unfold msgM; rw [hok1]; rfl
          have HK1 := Lib.hid (And.intro hok1 (And.intro hv1 (And.intro hv2 hv3)))
          have hM0 : (M1 == 0) = false := by simpa using hM1
          rw [show ((4276092928 : Nat) : Int) = 4276092928 from rfl]
          have HF := Lib.hid (And.intro hUf (And.intro hUr (And.intro hMr hBr)))
          clear hUp hS hBr hBx hUr hR' hUf hMr hMe hok1 hM1 HL HRW HOK hdd hv1 hv2 hv3
          go_wp2
          refine bodyPost_ret (results_cell_tmp_row rfl _ _ rb 38 #[.int .i64 M1, .int .i64 M2] _ rfl ((HF.out.2.2.2.set_ 0 (.int .i64 M1)).set_ 1 (.int .i64 M2)) Try.underlying38 rfl (by kernel_rfl)) rfl ?_
          rw [HK1.out.1, HK1.out.2.1, HK1.out.2.2.1, HK1.out.2.2.2]
          have hstf : Step (· = K) own1 wr own1 ((wr.setCell ⟨rb, 0, none⟩ (.int .i64 M1)).setCell ⟨rb, 1, none⟩ (.int .i64 M2)) := ⟨((Upd.refl _ _).setCell (p := ⟨rb, 0, none⟩) (.inl H0.out.2.2.2.1.2) _).setCell (p := ⟨rb, 1, none⟩) (.inl H0.out.2.2.2.1.2) _, fun _ _ => rfl⟩
          exact ⟨rfl, own1, ⟨(upd_set2 HF.out.1 (Nat.le_of_eq hrb) _ _).mono (fun _ _ h => h.elim), H0.out.1.old⟩, HF.out.2.1.step hstf (by omega) (by omega), HF.out.2.2.1.step hstf (by omega)⟩
        · have hdd : decide (0 ≤ (k0 : Int) ∧ (k0 : Int) < 8) = true := decide_eq_true ⟨by omega, by omega⟩
          have hok1 : msgOk ms k0 a data = false := by
            unfold msgOk
            rw [hMe, hdd]
            by_cases h1 : a = 4276092928
            · have h2 : M1 = 0 := by
                by_cases h2 : M1 = 0
                · exact h2
                · exact absurd ⟨h1, h2⟩ hgood
              simp [h2]
            · simp [h1]
          have e1 : accSt s (k0 : Int) 5 = recS s := by unfold accSt; rw [if_neg (by omega)]
          have e2 : accMt s m (k0 : Int) 5 a = recM s m k0 5 a := by unfold accMt; rw [if_neg (by omega)]; rfl
          have hv1 : msgV ms k0 a data = (0, 0) := by unfold msgV; rw [hok1]; rfl
          have hv2 : msgS s ms k0 a data = recS s := by unfold msgS; rw [hok1]; exact e1
          have hv3 : msgM s m ms k0 a data = recM s m k0 5 a := by unfold msgM; rw [hok1]; exact e2
          have HK1 := Lib.hid (And.intro hok1 (And.intro hv1 (And.intro hv2 hv3)))
          clear hdd
          have hBl := uref_blocked hUr hMr hcd hcm HOK.out k0 5 a hk08 (by decide) ha
          rw [show ((5 : Nat) : Int) = 5 from rfl] at hBl
          have HBl := Lib.hid hBl
          have HF := Lib.hid (And.intro hUf hBr)
          have hcase : (a == 4276092928) = false ∨ a = 4276092928 ∧ M1 = 0 := by
            by_cases h1 : a = 4276092928
            · right; refine ⟨h1, ?_⟩
              by_cases h2 : M1 = 0
              · exact h2
              · exact absurd ⟨h1, h2⟩ hgood
            · left; simpa using h1
          clear hUp hS hBr hBx hUr hR' hUf hMr hMe hok1 HL HRW HOK hgood e1 e2 hBl hv1 hv2 hv3
          have fin : ∀ (w2 : World) (own2 : Nat → Nat), Step (fun x => x = c ∨ x = cm) own1 wr own2 w2 → UrefAt own2 c d w2 q p2 t2 (recS s) ms → MemAt refK own2 cm w2 p2 0 n (recM s m k0 5 a) →
              Blk w2 rb 38 #[.int .i64 0, .int .i64 0] ∧ Hid (∃ own', Step (fun x => x = c ∨ x = cm) own w own' ((w2.setCell ⟨rb, 0, none⟩ (.int .i64 0)).setCell ⟨rb, 1, none⟩ (.int .i64 0)) ∧ UrefAt own' c d ((w2.setCell ⟨rb, 0, none⟩ (.int .i64 0)).setCell ⟨rb, 1, none⟩ (.int .i64 0)) q p2 t2 (recS s) ms ∧ MemAt refK own' cm ((w2.setCell ⟨rb, 0, none⟩ (.int .i64 0)).setCell ⟨rb, 1, none⟩ (.int .i64 0)) p2 0 n (recM s m k0 5 a)) := by
            intro w2 own2 hS2 hU2 hM2
            obtain ⟨g1, g2⟩ := hS2.blk HF.out.2 H0.out.2.2.2.1.2 (by omega)
            have hstf : Step (· = K) own2 w2 own2 ((w2.setCell ⟨rb, 0, none⟩ (.int .i64 0)).setCell ⟨rb, 1, none⟩ (.int .i64 0)) := ⟨((Upd.refl _ _).setCell (p := ⟨rb, 0, none⟩) (.inl g2) _).setCell (p := ⟨rb, 1, none⟩) (.inl g2) _, fun _ _ => rfl⟩
            have hsw : Step (fun x => x = c ∨ x = cm) own w own2 w2 := (show Step (fun x => x = c ∨ x = cm) own w own1 wr from ⟨HF.out.1.mono (fun _ _ h => h.elim), H0.out.1.old⟩).trans hS2
            refine ⟨g1, own2, ⟨(hsw.upd.setCell (p := ⟨rb, 0, none⟩) (.inr (Nat.le_of_eq hrb)) _).setCell (p := ⟨rb, 1, none⟩) (.inr (Nat.le_of_eq hrb)) _, hsw.old⟩, hU2.step hstf (by omega) (by omega), hM2.step hstf (by omega)⟩
          have FIN := Lib.hid fin
          clear fin
          rcases hcase with h1 | ⟨rfl, rfl⟩
          · have h1d : ((a : Int) == 4276092928) = false := by simp at h1 ⊢; omega
            go_wp2_with fail
            ((with_reducible refine HBl.out.mono ?_); rintro e w2 ⟨rfl, own2, hS2, hU2, hM2⟩)
            obtain ⟨g1, HG⟩ := FIN.out _ _ hS2 hU2 hM2
            have z0 := g1.frozen 0
            have z1 := g1.frozen 1
            have y0 := g1.cell 0
            have y1 := g1.cell 1
            simp only [List.getElem?_toArray, List.getElem?_cons_zero, List.getElem?_cons_succ] at y0 y1
            have hl2 := g1.lt
            have HB := Lib.hid g1
            clear hS2 hU2 hM2 g1 HBl FIN HF
            go_wp2
            refine bodyPost_ret (results_cell_tmp_row rfl _ _ rb 38 #[.int .i64 0, .int .i64 0] _ rfl ((HB.out.set_ 0 (.int .i64 0)).set_ 1 (.int .i64 0)) Try.underlying38 rfl (by kernel_rfl)) rfl ?_
            rw [HK1.out.1, HK1.out.2.1, HK1.out.2.2.1, HK1.out.2.2.2]
            exact ⟨rfl, HG.out⟩
          · rw [show ((4276092928 : Nat) : Int) = 4276092928 from rfl] at HBl ⊢
            go_wp2_with fail
            ((with_reducible refine HBl.out.mono ?_); rintro e w2 ⟨rfl, own2, hS2, hU2, hM2⟩)
            obtain ⟨g1, HG⟩ := FIN.out _ _ hS2 hU2 hM2
            have z0 := g1.frozen 0
            have z1 := g1.frozen 1
            have y0 := g1.cell 0
            have y1 := g1.cell 1
            simp only [List.getElem?_toArray, List.getElem?_cons_zero, List.getElem?_cons_succ] at y0 y1
            have hl2 := g1.lt
            have HB := Lib.hid g1
            clear hS2 hU2 hM2 g1 HBl FIN HF
            go_wp2
            refine bodyPost_ret (results_cell_tmp_row rfl _ _ rb 38 #[.int .i64 0, .int .i64 0] _ rfl ((HB.out.set_ 0 (.int .i64 0)).set_ 1 (.int .i64 0)) Try.underlying38 rfl (by kernel_rfl)) rfl ?_
            rw [HK1.out.1, HK1.out.2.1, HK1.out.2.2.1, HK1.out.2.2.2]
            exact ⟨rfl, HG.out⟩
  · have hno : msgOk ms dev a data = false := by unfold msgOk; rw [decide_eq_false hd]; rfl
    have e1 : accSt s dev 5 = s := by unfold accSt; rw [if_pos (.inr hd)]
    have e2 : accMt s m dev 5 a = m := by unfold accMt; rw [if_pos (.inr hd)]
    have hv1 : msgV ms dev a data = (0, 0) := by unfold msgV; rw [hno]; rfl
    have hv2 : msgS s ms dev a data = s := by unfold msgS; rw [hno, e1]; rfl
    have hv3 : msgM s m ms dev a data = m := by unfold msgM; rw [hno, e2]; rfl
    rw [hno, hv1, hv2, hv3]
    have hde : (!decide (0 ≤ dev ∧ dev < 8)) = true := by rw [decide_eq_false hd]; rfl
    have HB := Lib.hid hB0
    have HE := Lib.hid (And.intro hU hM)
    have z0 := hB0.frozen 0
    have z1 := hB0.frozen 1
    have x0 := hB0.cell 0
    have x1 := hB0.cell 1
    simp only [List.getElem?_toArray, List.getElem?_cons_zero, List.getElem?_cons_succ] at x0 x1
    have hl := hB0.lt
    clear hU hM hst0 hB0 ho0 hno e1 e2 hd hok hv1 hv2 hv3
    go_enter Try.func44, Try.ntmps44
    go_wp2_with fail
    ((with_reducible refine (HT.out _).mono ?_); rintro e wz ⟨rfl, rfl⟩)
    rw [hde]
    clear HT
    go_wp2
    refine bodyPost_ret (results_cell_tmp_row rfl _ _ w.heap.size 38 #[.int .i64 0, .int .i64 0] _ rfl HB.out Try.underlying38 rfl (by kernel_rfl)) rfl ?_
    have hstf := step_allocS own w (.cells #[.int .i64 0, .int .i64 0] 38)
    exact ⟨rfl, own, hstf.mono (fun _ h => h.elim), HE.out.1.step hstf (fun h => h) (fun h => h), HE.out.2.step hstf (fun h => h)⟩
end
end Go.Proofs.Ytlgcplekcmocbaa

/- The document's IOMMU: Next. -/
namespace Go.Proofs.Ytlgcplekcmocbaa
set_option linter.unusedVariables false
set_option linter.unusedSimpArgs false
open Go.RowKit
set_option maxRecDepth 100000

section
variable {own : Nat → Nat} {c d cm q p2 t2 n : Nat} {w : World} {s : Us} {ms : List To4} {m : Nat → Int}
set_option maxHeartbeats 1500000 in
theorem uref_Next_none (hU : UrefAt own c d w q p2 t2 s ms) (hr : nextOk s = false) :
    Calls Try.prog 49 #[.pointer (some ⟨q, 0, none⟩)] w fun e w' => e = .returned (.tuple #[.agg #[.int .i64 0, .int .i64 0, .int .u64 0], .bool false]) ∧ Upd (fun _ => False) w w' := by
  obtain ⟨c0, c1, c2, c3, c4, c5, c6, hlt⟩ := hU.cells
  clear hU
  unfold nextOk at hr
  rcases hq : s.rd with _ | _
  · rw [hq] at c3
    clear hr
    go_enter Try.func49, Try.ntmps49
    go_wp2
    refine bodyPost_ret (results_cell_tmp_row rfl _ _ w.heap.size 43 #[.int .i64 0, .int .i64 0, .int .u64 0] _ rfl (Blk.new w _ _) Try.underlying43 rfl (by kernel_rfl)) rfl ?_
    exact ⟨rfl, (Upd.refl _ _).alloc _⟩
  · rw [hq] at c3 hr
    have hu : s.un = 0 := by simpa using hr
    rw [hu, show ((0 : Nat) : Int) = 0 from rfl] at c5
    clear hr
    go_enter Try.func49, Try.ntmps49
    go_wp2
    refine bodyPost_ret (results_cell_tmp_row rfl _ _ w.heap.size 43 #[.int .i64 0, .int .i64 0, .int .u64 0] _ rfl (Blk.new w _ _) Try.underlying43 rfl (by kernel_rfl)) rfl ?_
    exact ⟨rfl, (Upd.refl _ _).alloc _⟩
set_option maxHeartbeats 1500000 in
theorem uref_Next (hU : UrefAt own c d w q p2 t2 s ms) (hM : MemAt refK own cm w p2 0 n m) (hcd : c ≠ d) (hcm : c ≠ cm ∧ d ≠ cm) (hok : UsOk n s) (hr : nextOk s = true) :
    Calls Try.prog 49 #[.pointer (some ⟨q, 0, none⟩)] w fun e w' => e = .returned (.tuple #[.agg #[.int .i64 (num m (nextA s) 4), .int .i64 (num m (nextA s + 4) 4), .int .u64 (num m (nextA s + 8) 8)], .bool true]) ∧
      ∃ own', Step (· = c) own w own' w' ∧ UrefAt own' c d w' q p2 t2 (nextS s) ms ∧ MemAt refK own' cm w' p2 0 n m := by
  obtain ⟨c0, c1, c2, c3, c4, c5, c6, hlt⟩ := hU.cells
  have hsz := hM.sizes
  have hbd := hM.bd
  obtain ⟨hA, hun, hrd⟩ := nextA_in hok hr
  have hne : nextS s = { s with fi := (s.fi + 1) % 256, un := s.un - 1 } := by unfold nextS; rw [hr]; rfl
  rw [hrd] at c3
  have hun0 : ((s.un : Int) == 0) = false := by simp; omega
  have hun1 := hok.un
  have hfi := hok.fi
  have hrg := hok.ring
  have hAe : nextA s = s.ring + s.fi * 16 := rfl
  generalize nextA s = A at *
  have g1 := rd_num n m A 4 rfl (by omega)
  have g2 := rd_num n m (A + 4) 4 rfl (by omega)
  have g3 := rd_num n m (A + 8) 8 rfl (by omega)
  rw [show ((A + 4 : Nat) : Int) = (A : Int) + 4 from rfl] at g2
  rw [show ((A + 8 : Nat) : Int) = (A : Int) + 8 from rfl] at g3
  rw [show ((4 : Nat) : Int) = 4 from rfl] at g1 g2
  rw [show ((8 : Nat) : Int) = 8 from rfl] at g3
  have b1 := num_nonneg hbd 4 A
  have b1' := num_lt hbd 4 A
  have b2 := num_nonneg hbd 4 (A + 4)
  have b2' := num_lt hbd 4 (A + 4)
  rw [show (256 : Int) ^ 4 = 4294967296 from rfl] at b1' b2'
  obtain ⟨x1, hx1⟩ : ∃ x, num m A 4 = x := ⟨_, rfl⟩
  obtain ⟨x2, hx2⟩ : ∃ x, num m (A + 4) 4 = x := ⟨_, rfl⟩
  obtain ⟨x3, hx3⟩ : ∃ x, num m (A + 8) 8 = x := ⟨_, rfl⟩
  rw [hx1] at b1 b1' g1 ⊢
  rw [hx2] at b2 b2' g2 ⊢
  rw [hx3] at g3 ⊢
  have hst : Step (fun _ => False) own w (ext own w (c + cm + d + 1)) (w.alloc (.cells #[.int .i64 0, .int .i64 0, .int .u64 0] 43)).drew := Step.drew ⟨(Upd.refl _ _).alloc _, fun b hb => ext_old _ _ _ hb⟩
  have hU1 := hU.step hst (fun h => h) (fun h => h)
  have hM1 := hM.step hst (fun h => h)
  have hB1 : Blk (w.alloc (.cells #[.int .i64 0, .int .i64 0, .int .u64 0] 43)).drew w.heap.size 43 #[.int .i64 0, .int .i64 0, .int .u64 0] := Blk.drew (Blk.new w _ _)
  have hO1 : ext own w (c + cm + d + 1) w.heap.size = c + cm + d + 1 := ext_new _ _ _ (Nat.le_refl _)
  have hR1 := mref_Read hM1 (A : Int) 4 (by omega) (by omega) (by decide) (by decide)
  rw [g1] at hR1
  have hR2 := mref_Read hM1 ((A : Int) + 4) 4 (by omega) (by omega) (by decide) (by decide)
  rw [g2] at hR2
  have hR3 := mref_Read hM1 ((A : Int) + 8) 8 (by omega) (by omega) (by decide) (by decide)
  rw [g3] at hR3
  have HR1 := Lib.hid hR1
  have HR2 := Lib.hid hR2
  have HR3 := Lib.hid hR3
  have HN := Lib.hid (And.intro hst (And.intro hU1 (And.intro hM1 (And.intro hB1 (And.intro hO1 hne)))))
  have HAE := Lib.hid hAe
  have hAN : (A : Int) + 16 ≤ n * 4096 := by omega
  clear hU hM hst hok hr hAe g1 g2 g3 hx1 hx2 hx3 hbd hrd hR1 hR2 hR3 hU1 hM1 hB1 hO1 hne
  go_enter Try.func49, Try.ntmps49
  go_wp2_with fail
  refine wpE_region (S := fun (W' : World) => W'.cell? ⟨q, 11, none⟩ = some (.int .u64 (s.ring : Int)) ∧ W'.cell? ⟨q, 13, none⟩ = some (.int .i64 (s.fi : Int))) (s := 11) (by kernel_rfl) ?_
  have hS : (fun (W' : World) => W'.cell? ⟨q, 11, none⟩ = some (.int .u64 (s.ring : Int)) ∧ W'.cell? ⟨q, 13, none⟩ = some (.int .i64 (s.fi : Int))) _ := ⟨HN.out.2.1.cells.2.2.1, HN.out.2.1.cells.2.2.2.2.1⟩
  refine wpE_take (i := 0) (oi := { dst := some 24, op := Go.Op.move (Go.Operand.tmp 0), type := 25, pos := "ref.go:108", after := #[], guard := none }) (v := ?_) rfl (by kernel_rfl) (fun _ _ _ h => h) (Or.inl ⟨by rfl, fun W hW => ?_⟩) hS ?_
  rotate_left
  · obtain ⟨hw1, hw2⟩ := hW; go_simp; (try go_bits); (try rw [if_pos (by omega)]); (try with_reducible rfl)
  (try simp only [Act.put, List.setIfInBounds_toArray, List.set_cons_succ, List.set_cons_zero])
  refine wpE_take (i := 1) (oi := { dst := some 25, op := Go.Op.nilCheck (Go.Operand.tmp 24), type := 0, pos := "ref.go:108", after := #[{ on := 0, ground := Go.Ground.data }], guard := none }) (v := ?_) rfl (by kernel_rfl) (fun _ _ _ h => h) (Or.inl ⟨by rfl, fun W hW => ?_⟩) hS ?_
  rotate_left
  · obtain ⟨hw1, hw2⟩ := hW; go_simp; (try go_bits); (try rw [if_pos (by omega)]); (try with_reducible rfl)
  (try simp only [Act.put, List.setIfInBounds_toArray, List.set_cons_succ, List.set_cons_zero])
  refine wpE_take (i := 2) (oi := { dst := some 26, op := Go.Op.fieldAddr 79 (Go.Operand.tmp 25) 4, type := 0, pos := "ref.go:108", after := #[{ on := 1, ground := Go.Ground.data }], guard := none }) (v := ?_) rfl (by kernel_rfl) (fun _ _ _ h => h) (Or.inl ⟨by rfl, fun W hW => ?_⟩) hS ?_
  rotate_left
  · obtain ⟨hw1, hw2⟩ := hW; go_simp; (try go_bits); (try rw [if_pos (by omega)]); (try with_reducible rfl)
  (try simp only [Act.put, List.setIfInBounds_toArray, List.set_cons_succ, List.set_cons_zero])
  refine wpE_take (i := 3) (oi := { dst := some 27, op := Go.Op.load 22 (Go.Operand.tmp 26), type := 22, pos := "ref.go:108", after := #[{ on := 2, ground := Go.Ground.data }], guard := none }) (v := ?_) rfl (by kernel_rfl) (fun _ _ _ h => h) (Or.inl ⟨by rfl, fun W hW => ?_⟩) hS ?_
  rotate_left
  · obtain ⟨hw1, hw2⟩ := hW; go_simp; (try go_bits); (try rw [if_pos (by omega)]); (try with_reducible rfl)
  (try simp only [Act.put, List.setIfInBounds_toArray, List.set_cons_succ, List.set_cons_zero])
  refine wpE_take (i := 4) (oi := { dst := some 28, op := Go.Op.move (Go.Operand.tmp 0), type := 25, pos := "ref.go:108", after := #[], guard := none }) (v := ?_) rfl (by kernel_rfl) (fun _ _ _ h => h) (Or.inl ⟨by rfl, fun W hW => ?_⟩) hS ?_
  rotate_left
  · obtain ⟨hw1, hw2⟩ := hW; go_simp; (try go_bits); (try rw [if_pos (by omega)]); (try with_reducible rfl)
  (try simp only [Act.put, List.setIfInBounds_toArray, List.set_cons_succ, List.set_cons_zero])
  refine wpE_take (i := 5) (oi := { dst := some 29, op := Go.Op.nilCheck (Go.Operand.tmp 28), type := 0, pos := "ref.go:108", after := #[{ on := 4, ground := Go.Ground.data }], guard := none }) (v := ?_) rfl (by kernel_rfl) (fun _ _ _ h => h) (Or.inl ⟨by rfl, fun W hW => ?_⟩) hS ?_
  rotate_left
  · obtain ⟨hw1, hw2⟩ := hW; go_simp; (try go_bits); (try rw [if_pos (by omega)]); (try with_reducible rfl)
  (try simp only [Act.put, List.setIfInBounds_toArray, List.set_cons_succ, List.set_cons_zero])
  refine wpE_take (i := 6) (oi := { dst := some 30, op := Go.Op.fieldAddr 79 (Go.Operand.tmp 29) 6, type := 0, pos := "ref.go:108", after := #[{ on := 5, ground := Go.Ground.data }], guard := none }) (v := ?_) rfl (by kernel_rfl) (fun _ _ _ h => h) (Or.inl ⟨by rfl, fun W hW => ?_⟩) hS ?_
  rotate_left
  · obtain ⟨hw1, hw2⟩ := hW; go_simp; (try go_bits); (try rw [if_pos (by omega)]); (try with_reducible rfl)
  (try simp only [Act.put, List.setIfInBounds_toArray, List.set_cons_succ, List.set_cons_zero])
  refine wpE_take (i := 7) (oi := { dst := some 31, op := Go.Op.load 3 (Go.Operand.tmp 30), type := 3, pos := "ref.go:108", after := #[{ on := 6, ground := Go.Ground.data }], guard := none }) (v := ?_) rfl (by kernel_rfl) (fun _ _ _ h => h) (Or.inl ⟨by rfl, fun W hW => ?_⟩) hS ?_
  rotate_left
  · obtain ⟨hw1, hw2⟩ := hW; go_simp; (try go_bits); (try rw [if_pos (by omega)]); (try with_reducible rfl)
  (try simp only [Act.put, List.setIfInBounds_toArray, List.set_cons_succ, List.set_cons_zero])
  refine wpE_take (i := 8) (oi := { dst := some 32, op := Go.Op.binOp Go.BinOp.mul 3 (Go.Operand.const (Go.Value.int Go.IntKind.i64 16)) (Go.Operand.tmp 31) 3, type := 3, pos := "ref.go:108", after := #[{ on := 7, ground := Go.Ground.data }], guard := none }) (v := .int .i64 ((s.fi * 16 : Nat) : Int)) rfl (by kernel_rfl) (fun _ _ _ h => h) (Or.inl ⟨by rfl, fun W hW => ?_⟩) hS ?_
  · obtain ⟨hw1, hw2⟩ := hW; go_simp; (try go_bits); (try trivial); (try omega)
  (try simp only [Act.put, List.setIfInBounds_toArray, List.set_cons_succ, List.set_cons_zero])
  refine wpE_take (i := 9) (oi := { dst := some 33, op := Go.Op.convert 3 22 (Go.Operand.tmp 32), type := 22, pos := "ref.go:108", after := #[{ on := 8, ground := Go.Ground.data }], guard := none }) (v := .int .u64 ((s.fi * 16 : Nat) : Int)) rfl (by kernel_rfl) (fun _ _ _ h => h) (Or.inl ⟨by rfl, fun W hW => ?_⟩) hS ?_
  · obtain ⟨hw1, hw2⟩ := hW; go_simp; (try go_bits); (try trivial)
  (try simp only [Act.put, List.setIfInBounds_toArray, List.set_cons_succ, List.set_cons_zero])
  refine wpE_take (i := 10) (oi := { dst := some 34, op := Go.Op.binOp Go.BinOp.add 22 (Go.Operand.tmp 27) (Go.Operand.tmp 33) 22, type := 22, pos := "ref.go:108", after := #[{ on := 3, ground := Go.Ground.data }, { on := 9, ground := Go.Ground.data }], guard := none }) (v := .int .u64 (A : Int)) rfl (by kernel_rfl) (fun _ _ _ h => h) (Or.inl ⟨by rfl, fun W hW => ?_⟩) hS ?_
  · obtain ⟨hw1, hw2⟩ := hW; have hq := HAE.out; rw [hq]; go_simp; (try go_bits); (try rw [IntWalk.u64_in _ (by omega)]); (try trivial)
  (try simp only [Act.put, List.setIfInBounds_toArray, List.set_cons_succ, List.set_cons_zero])
  refine wpE_last (oi := { dst := some 4, op := Go.Op.assign (Go.Operand.tmp 34), type := 22, pos := "ref.go:108", after := #[{ on := 10, ground := Go.Ground.data }, { on := 0, ground := Go.Ground.phase }, { on := 1, ground := Go.Ground.phase }, { on := 2, ground := Go.Ground.phase }, { on := 3, ground := Go.Ground.phase }, { on := 4, ground := Go.Ground.phase }, { on := 5, ground := Go.Ground.phase }, { on := 6, ground := Go.Ground.phase }, { on := 7, ground := Go.Ground.phase }, { on := 8, ground := Go.Ground.phase }, { on := 9, ground := Go.Ground.phase }, { on := 10, ground := Go.Ground.phase }], guard := none }) rfl (by kernel_rfl) (by kernel_rfl) (by rfl) (fun K hK => ?_)
  go_simp; (try go_bits); refine hK _ _ ?_; clear hK K
  clear hS c0 c1 c2 c3 c4 c5 c6 HAE
  generalize hxr : w.heap.size = xr at *
  generalize (w.alloc (.cells #[.int .i64 0, .int .i64 0, .int .u64 0] 43)).drew = w1 at *
  obtain ⟨d0, _, _, _, d4, d5, _, dl⟩ := HN.out.2.1.cells
  have z4 := HN.out.2.1.froz 13
  have z5 := HN.out.2.1.froz 14
  go_wp2_with fail
  ((with_reducible refine HR1.out.mono ?_); rintro e wz ⟨rfl, rfl⟩)
  clear HR1
  go_wp2_with fail
  ((with_reducible refine HR2.out.mono ?_); rintro e wz ⟨rfl, rfl⟩)
  clear HR2
  go_wp2_with fail
  ((with_reducible refine HR3.out.mono ?_); rintro e wz ⟨rfl, rfl⟩)
  clear HR3
  have y0 := HN.out.2.2.2.1.cell 0
  have y1 := HN.out.2.2.2.1.cell 1
  have y2 := HN.out.2.2.2.1.cell 2
  simp only [List.getElem?_toArray, List.getElem?_cons_zero, List.getElem?_cons_succ] at y0 y1 y2
  have t0 := HN.out.2.2.2.1.frozen 0
  have t1 := HN.out.2.2.2.1.frozen 1
  have t2' := HN.out.2.2.2.1.frozen 2
  have hlr := HN.out.2.2.2.1.lt
  have hne : q ≠ xr := by omega
  have hne' : xr ≠ q := by omega
  obtain ⟨r1, h1⟩ := HN.out.2.1.put (s' := { s with fi := (s.fi + 1) % 256 }) hcd 13 (.int .i64 (((s.fi : Int) + 1) % 256)) (fun v => by rw [show ((s.fi : Int) + 1) % 256 = (((s.fi + 1) % 256 : Nat) : Int) from by omega]; rfl)
  obtain ⟨r2, h2⟩ := h1.put (s' := { s with fi := (s.fi + 1) % 256, un := s.un - 1 }) hcd 14 (.int .i64 ((s.un : Int) - 1)) (fun v => by rw [show (s.un : Int) - 1 = ((s.un - 1 : Nat) : Int) from by omega]; rfl)
  rw [← HN.out.2.2.2.2.2] at h2
  have r12 := r1.trans r2
  obtain ⟨k1, k2⟩ := r12.blk HN.out.2.2.2.1 HN.out.2.2.2.2.1 (by omega)
  have HE := Lib.hid (And.intro ((HN.out.1.mono (C' := (· = c)) (fun _ h => h.elim)).trans r12) (And.intro h2 (And.intro (HN.out.2.2.1.step r12 (fun e => hcm.1 e.symm)) (And.intro k1 k2))))
  clear r1 r2 h1 h2 r12 k1 k2 HN
  go_wp2
  refine bodyPost_ret (results_cell_tmp_row rfl _ _ xr 43 #[.int .i64 x1, .int .i64 x2, .int .u64 x3] _ rfl (((HE.out.2.2.2.1.set_ 0 (.int .i64 x1)).set_ 1 (.int .i64 x2)).set_ 2 (.int .u64 x3)) Try.underlying43 rfl (by kernel_rfl)) rfl ?_
  have hx := HE.out.2.2.2.2
  have hst : ∀ wq : World, Step (· = c + cm + d + 1) (ext own w (c + cm + d + 1)) wq (ext own w (c + cm + d + 1)) (((wq.setCell ⟨xr, 0, none⟩ (.int .i64 x1)).setCell ⟨xr, 1, none⟩ (.int .i64 x2)).setCell ⟨xr, 2, none⟩ (.int .u64 x3)) := fun wq =>
    ⟨(((Upd.refl _ _).setCell (p := ⟨xr, 0, none⟩) (.inl hx) (.int .i64 x1)).setCell (p := ⟨xr, 1, none⟩) (.inl hx) (.int .i64 x2)).setCell (p := ⟨xr, 2, none⟩) (.inl hx) (.int .u64 x3), fun _ _ => rfl⟩
  have hup : ∀ wq : World, Upd (· = xr) wq (((wq.setCell ⟨xr, 0, none⟩ (.int .i64 x1)).setCell ⟨xr, 1, none⟩ (.int .i64 x2)).setCell ⟨xr, 2, none⟩ (.int .u64 x3)) := fun wq =>
    ((Upd.refl (· = xr) wq).setCell (p := ⟨xr, 0, none⟩) (.inl rfl) (.int .i64 x1)).setCell (p := ⟨xr, 1, none⟩) (.inl rfl) (.int .i64 x2) |>.setCell (p := ⟨xr, 2, none⟩) (.inl rfl) (.int .u64 x3)
  exact ⟨rfl, _, ⟨HE.out.1.upd.trans' (hup _) (fun i hi e => by omega), HE.out.1.old⟩, HE.out.2.1.step (hst _) (by omega) (by omega), HE.out.2.2.1.step (hst _) (by omega)⟩
end
end Go.Proofs.Ytlgcplekcmocbaa
