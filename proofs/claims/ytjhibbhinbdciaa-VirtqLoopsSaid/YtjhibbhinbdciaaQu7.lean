import Derived.Test.YtjhibbhinbdciaaQu6
import Derived.Test.YtjhibbhinbdciaaPlace0
import Derived.Test.YtjhibbhinbdciaaMref5
/- citadellaw13: Put; awake. -/
namespace Go.Proofs.Ytjhibbhinbdciaa
set_option linter.unusedVariables false
set_option linter.unusedSimpArgs false
open Go.RowKit
set_option maxRecDepth 100000
def putA (i : Int) : Int := 256 + 16 * (i % 64)
/-- a descriptor that a driver writes -/
def putD (n : Nat) (m : Nat → Int) (i addr v fl nx : Int) : Nat → Int :=
  wrR 0 n (wrR 0 n (wrR 0 n (wrR 0 n m (putA i) 8 addr) (putA i + 8) 4 v) (putA i + 12) 2 (fl % 18446744073709551616)) (putA i + 14) 2 (nx % 18446744073709551616)
section
variable {own own' : Nat → Nat} {c1 c2 p1 p2 n : Nat} {m : Nat → Int} {w w' : World}
set_option maxHeartbeats 4000000 in
theorem law13_Put (hc : c1 ≠ c2) (h1 : MemAt ramK own c1 w p1 0 n m) (h2 : MemAt refK own c2 w p2 0 n m) (i addr v fl nx : Int) (hi : -9223372036854775808 ≤ i ∧ i ≤ 9223372036854775807) (ha : 0 ≤ addr ∧ addr < 18446744073709551616) (hv : 0 ≤ v ∧ v < 18446744073709551616)
    (hf : -9223372036854775808 ≤ fl ∧ fl ≤ 9223372036854775807) (hn : -9223372036854775808 ≤ nx ∧ nx ≤ 9223372036854775807) :
    Calls Try.prog 14 #[.agg #[.pointer (some ⟨p1, 0, none⟩), .pointer (some ⟨p2, 0, none⟩)], .int .u64 0, .int .i64 i, .int .u64 addr, .int .u64 v, .int .i64 fl, .int .i64 nx] w fun e w' =>
      e = .returned (.tuple #[]) ∧ ∃ own', Step (fun x => x = c1 ∨ x = c2) own w own' w' ∧ MemAt ramK own' c1 w' p1 0 n (putD n m i addr v fl nx) ∧ MemAt refK own' c2 w' p2 0 n (putD n m i addr v fl nx) := by
  obtain ⟨k, hk⟩ : ∃ k, k = c1 + c2 + 1 := ⟨_, rfl⟩
  have hk1 : k ≠ c1 ∧ k ≠ c2 := by omega
  have hst : Step (fun _ => False) own w (ext own w k) (w.alloc (.cells #[.pointer (some ⟨p1, 0, none⟩), .pointer (some ⟨p2, 0, none⟩)] 26)) := ⟨(Upd.refl _ _).alloc _, fun b hb => ext_old _ _ _ hb⟩
  have hB := Blk.new w 26 #[.pointer (some ⟨p1, 0, none⟩), .pointer (some ⟨p2, 0, none⟩)]
  have hbk : ext own w k w.heap.size = k := ext_new _ _ _ (Nat.le_refl _)
  obtain ⟨j, hj⟩ : ∃ j, i % 64 = j := ⟨_, rfl⟩
  have hjb : 0 ≤ j ∧ j < 64 := by omega
  have HP := Lib.hid (fun w => place_calls i 64 w hi.1 hi.2 (by decide) (by decide))
  rw [hj] at HP
  obtain ⟨A, hA⟩ : ∃ a, 256 + 16 * j = a := ⟨_, rfl⟩
  have hAb : 256 ≤ A ∧ A < 1280 := by omega
  have hpd : putD n m i addr v fl nx = wrR 0 n (wrR 0 n (wrR 0 n (wrR 0 n m A 8 addr) (A + 8) 4 v) (A + 12) 2 (fl % 18446744073709551616)) (A + 14) 2 (nx % 18446744073709551616) := by unfold putD putA; rw [hj, hA]
  rw [hpd]
  have hw1 : wrap64 (16 * j) = 16 * j := IntWalk.wrap64_in _ (by omega)
  have hw2 : IntKind.u64.wrap (16 * j) = 16 * j := IntWalk.u64_in _ (by omega)
  have hfw : IntKind.u64.wrap fl = fl % 18446744073709551616 := rfl
  have hnw : IntKind.u64.wrap nx = nx % 18446744073709551616 := rfl
  obtain ⟨FL, hFL⟩ : ∃ z, fl % 18446744073709551616 = z := ⟨_, rfl⟩
  obtain ⟨NX, hNX⟩ : ∃ z, nx % 18446744073709551616 = z := ⟨_, rfl⟩
  have hFb : 0 ≤ FL ∧ FL < 18446744073709551616 := by omega
  have hNb : 0 ≤ NX ∧ NX < 18446744073709551616 := by omega
  rw [hFL] at hfw ⊢
  rw [hNX] at hnw ⊢
  have H0 := Lib.hid (And.intro hst (And.intro (And.intro hB hbk) (And.intro (h1.step hst (fun h => h)) (h2.step hst (fun h => h)))))
  clear hst hB hbk h1 h2 hj hpd hFL hNX hk
  go_enter Try.func14, Try.ntmps14
  go_wp2_with fail
  ((with_reducible refine (HP.out _).mono ?_); rintro e wz ⟨rfl, rfl⟩)
  clear HP
  go_wp2_with fail
  ((with_reducible refine (two_Write hc H0.out.2.2.1 H0.out.2.2.2 (A) 8 addr (by omega) (by omega) (by decide) (by decide) (by omega) (by omega)).mono ?_); rintro e w1 ⟨rfl, own1, hS1, hM1, hR1⟩)
  have hbx := hS1.blk H0.out.2.1.1 H0.out.2.1.2 (fun e => e.elim hk1.1 hk1.2)
  have H1 := Lib.hid (And.intro ((H0.out.1.mono (C' := fun x => x = c1 ∨ x = c2) (fun _ h => h.elim)).trans hS1) (And.intro hbx (And.intro hM1 hR1)))
  have x0 := hbx.1.cell 0
  have x1 := hbx.1.cell 1
  simp only [List.getElem?_toArray, List.getElem?_cons_zero, List.getElem?_cons_succ] at x0 x1
  clear hS1 hM1 hR1 hbx H0
  generalize w.heap.size = bx at *
  go_wp2_with fail
  ((with_reducible refine (two_Write hc H1.out.2.2.1 H1.out.2.2.2 (A + 8) 4 v (by omega) (by omega) (by decide) (by decide) (by omega) (by omega)).mono ?_); rintro e w2 ⟨rfl, own2, hS2, hM2, hR2⟩)
  have hbx := hS2.blk H1.out.2.1.1 H1.out.2.1.2 (fun e => e.elim hk1.1 hk1.2)
  have H2 := Lib.hid (And.intro ((H1.out.1.mono (C' := fun x => x = c1 ∨ x = c2) (fun _ h => h)).trans hS2) (And.intro hbx (And.intro hM2 hR2)))
  clear x0 x1
  have x0 := hbx.1.cell 0
  have x1 := hbx.1.cell 1
  simp only [List.getElem?_toArray, List.getElem?_cons_zero, List.getElem?_cons_succ] at x0 x1
  clear hS2 hM2 hR2 hbx H1
  go_wp2_with fail
  ((with_reducible refine (two_Write hc H2.out.2.2.1 H2.out.2.2.2 (A + 12) 2 FL (by omega) (by omega) (by decide) (by decide) (by omega) (by omega)).mono ?_); rintro e w3 ⟨rfl, own3, hS3, hM3, hR3⟩)
  have hbx := hS3.blk H2.out.2.1.1 H2.out.2.1.2 (fun e => e.elim hk1.1 hk1.2)
  have H3 := Lib.hid (And.intro ((H2.out.1.mono (C' := fun x => x = c1 ∨ x = c2) (fun _ h => h)).trans hS3) (And.intro hbx (And.intro hM3 hR3)))
  clear x0 x1
  have x0 := hbx.1.cell 0
  have x1 := hbx.1.cell 1
  simp only [List.getElem?_toArray, List.getElem?_cons_zero, List.getElem?_cons_succ] at x0 x1
  clear hS3 hM3 hR3 hbx H2
  go_wp2_with fail
  ((with_reducible refine (two_Write hc H3.out.2.2.1 H3.out.2.2.2 (A + 14) 2 NX (by omega) (by omega) (by decide) (by decide) (by omega) (by omega)).mono ?_); rintro e w4 ⟨rfl, own4, hS4, hM4, hR4⟩)
  have hbx := hS4.blk H3.out.2.1.1 H3.out.2.1.2 (fun e => e.elim hk1.1 hk1.2)
  have H4 := Lib.hid (And.intro ((H3.out.1.mono (C' := fun x => x = c1 ∨ x = c2) (fun _ h => h)).trans hS4) (And.intro hbx (And.intro hM4 hR4)))
  clear x0 x1
  have x0 := hbx.1.cell 0
  have x1 := hbx.1.cell 1
  simp only [List.getElem?_toArray, List.getElem?_cons_zero, List.getElem?_cons_succ] at x0 x1
  clear hS4 hM4 hR4 hbx H3
  go_wp2
  go_end0
  exact ⟨rfl, own4, H4.out.1, H4.out.2.2⟩
end
/-- what awake's memory holds -/
def awM1 : Nat → Int := putD 1 (fun _ => 0) 0 1024 8 0 0
def awM2 : Nat → Int := wrR 0 1 awM1 2050 2 1
def awQ : Qu := ⟨true, false, 2, 256, 2048, 2304, 0, 0⟩
def awQ1 : Qu := ⟨true, false, 2, 256, 2048, 2304, 1, 0⟩
theorem aw_next : nxQ 0 1 awM2 awQ = ⟨0, [(1024, 8)], [], true, 0, awQ1⟩ := by kernel_rfl
theorem aw_push : (pushQ 0 1 awM2 awQ1 (0 % 18446744073709551616) 5).1 = 0 := by kernel_rfl
theorem aw_set : setQ qu0 2 256 2048 2304 = awQ ∧ setR qu0 2 256 2048 2304 = 0 := ⟨by kernel_rfl, by kernel_rfl⟩
theorem aw_ok : QuOk awQ := ⟨fun _ => ⟨by decide, by decide⟩, by decide, by decide, by decide, by decide, by decide⟩
theorem aw_ok1 : QuOk awQ1 := ⟨fun _ => ⟨by decide, by decide⟩, by decide, by decide, by decide, by decide, by decide⟩
end Go.Proofs.Ytjhibbhinbdciaa
