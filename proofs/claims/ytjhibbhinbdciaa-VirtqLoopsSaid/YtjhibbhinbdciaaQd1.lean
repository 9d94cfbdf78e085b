import Derived.Test.YtjhibbhinbdciaaQu8
/- Descriptors that a driver wrote, read back. -/
namespace Go.Proofs.Ytjhibbhinbdciaa
set_option linter.unusedVariables false
set_option linter.unusedSimpArgs false
open Go.RowKit
set_option maxRecDepth 100000
theorem hasR_in {n a s : Nat} (h : a + s ≤ n * 4096) : hasR 0 n (a : Int) (s : Int) = true := hasR_iff.2 (by omega)
theorem rdR_in {n : Nat} (m : Nat → Int) {a s : Nat} (hs : s = 1 ∨ s = 2 ∨ s = 4 ∨ s = 8) (h : a + s ≤ n * 4096) : rdR 0 n m (a : Int) (s : Int) = (num m a s, true) := by
  have ho : okS (s : Int) = true := okS_iff.2 (by omega)
  unfold rdR
  rw [ho, hasR_in h, if_pos (show (true && true) = true from rfl)]
  have e1 : ((a : Int) - (0 : Nat)).toNat = a := by omega
  have e2 : ((s : Int)).toNat = s := by omega
  rw [e1, e2]
theorem wrR_in {n : Nat} (m : Nat → Int) {a s : Nat} (v : Int) (hs : s = 1 ∨ s = 2 ∨ s = 4 ∨ s = 8) (h : a + s ≤ n * 4096) : wrR 0 n m (a : Int) (s : Int) v = put m a s v := by
  have ho : okS (s : Int) = true := okS_iff.2 (by omega)
  unfold wrR
  rw [ho, hasR_in h, if_pos (show (true && true) = true from rfl)]
  have e1 : ((a : Int) - (0 : Nat)).toNat = a := by omega
  have e2 : ((s : Int)).toNat = s := by omega
  rw [e1, e2]
/-- a descriptor's place -/
def dA (i : Nat) : Nat := 256 + 16 * i
theorem putD_eq {n : Nat} (hn : 1 ≤ n) (m : Nat → Int) (i : Nat) (hi : i < 64) (addr v fl nx : Int) :
    putD n m (i : Int) addr v fl nx = put (put (put (put m (dA i) 8 addr) (dA i + 8) 4 v) (dA i + 12) 2 (fl % 18446744073709551616)) (dA i + 14) 2 (nx % 18446744073709551616) := by
  have e : putA (i : Int) = ((dA i : Nat) : Int) := by unfold putA dA; omega
  have hf : dA i + 16 ≤ n * 4096 := by unfold dA; omega
  unfold putD
  rw [e, show ((dA i : Nat) : Int) + 8 = ((dA i + 8 : Nat) : Int) by omega, show ((dA i : Nat) : Int) + 12 = ((dA i + 12 : Nat) : Int) by omega, show ((dA i : Nat) : Int) + 14 = ((dA i + 14 : Nat) : Int) by omega]
  have w1 := wrR_in (n := n) (a := dA i) (s := 8) m addr (by omega) (by omega)
  rw [show ((8 : Nat) : Int) = 8 from rfl] at w1
  rw [w1]
  have w2 := wrR_in (n := n) (a := dA i + 8) (s := 4) (put m (dA i) 8 addr) v (by omega) (by omega)
  rw [show ((4 : Nat) : Int) = 4 from rfl] at w2
  rw [w2]
  have w3 := wrR_in (n := n) (a := dA i + 12) (s := 2) (put (put m (dA i) 8 addr) (dA i + 8) 4 v) (fl % 18446744073709551616) (by omega) (by omega)
  rw [show ((2 : Nat) : Int) = 2 from rfl] at w3
  rw [w3]
  have w4 := wrR_in (n := n) (a := dA i + 14) (s := 2) (put (put (put m (dA i) 8 addr) (dA i + 8) 4 v) (dA i + 12) 2 (fl % 18446744073709551616)) (nx % 18446744073709551616) (by omega) (by omega)
  rw [show ((2 : Nat) : Int) = 2 from rfl] at w4
  rw [w4]
/-- what is read of the queue's descriptors, where they lie at 0x100 -/
theorem dsD_in {n : Nat} (hn : 1 ≤ n) (m : Nat → Int) (q : Qu) (hq : q.ds = 256) (j : Nat) (hj : j < 64) :
    dsD 0 n m q j = ⟨num m (dA j) 8, num m (dA j + 8) 4, num m (dA j + 12) 2, num m (dA j + 14) 2⟩ ∧ dsOk 0 n m q j = (decide (num m (dA j + 12) 2 < 4) && (decide (num m (dA j + 8) 4 = 0) || hasR 0 n (num m (dA j) 8) (num m (dA j + 8) 4))) := by
  have e : dsA q j = ((dA j : Nat) : Int) := by unfold dsA dA; rw [hq]; omega
  have hf : dA j + 16 ≤ n * 4096 := by unfold dA; omega
  have r1 := rdR_in (n := n) m (a := dA j) (s := 8) (by omega) (by omega)
  have r2 := rdR_in (n := n) m (a := dA j + 8) (s := 4) (by omega) (by omega)
  have r3 := rdR_in (n := n) m (a := dA j + 12) (s := 2) (by omega) (by omega)
  have r4 := rdR_in (n := n) m (a := dA j + 14) (s := 2) (by omega) (by omega)
  rw [show ((8 : Nat) : Int) = 8 from rfl] at r1
  rw [show ((4 : Nat) : Int) = 4 from rfl, show ((dA j + 8 : Nat) : Int) = (dA j : Int) + 8 by omega] at r2
  rw [show ((2 : Nat) : Int) = 2 from rfl, show ((dA j + 12 : Nat) : Int) = (dA j : Int) + 12 by omega] at r3
  rw [show ((2 : Nat) : Int) = 2 from rfl, show ((dA j + 14 : Nat) : Int) = (dA j : Int) + 14 by omega] at r4
  have hD : dsD 0 n m q j = ⟨num m (dA j) 8, num m (dA j + 8) 4, num m (dA j + 12) 2, num m (dA j + 14) 2⟩ := by
    unfold dsD
    rw [e, r1, r2, r3, r4]
  refine ⟨hD, ?_⟩
  unfold dsOk
  rw [hD, e, r1, r2, r3, r4]
  rfl
theorem num_far (m : Nat → Int) (i j : Nat) (hij : i ≠ j) (addr v fl nx : Int) (o k : Nat) (hk : o + k ≤ 16) :
    num (put (put (put (put m (dA i) 8 addr) (dA i + 8) 4 v) (dA i + 12) 2 fl) (dA i + 14) 2 nx) (dA j + o) k = num m (dA j + o) k := by
  have : dA j + 16 ≤ dA i ∨ dA i + 16 ≤ dA j := by unfold dA; omega
  rw [num_put_far _ _ _ _ _ _ (by omega), num_put_far _ _ _ _ _ _ (by omega), num_put_far _ _ _ _ _ _ (by omega), num_put_far _ _ _ _ _ _ (by omega)]
theorem num_same (m : Nat → Int) (i : Nat) (addr v fl nx : Int) :
    num (put (put (put (put m (dA i) 8 addr) (dA i + 8) 4 v) (dA i + 12) 2 fl) (dA i + 14) 2 nx) (dA i) 8 = addr % 256 ^ 8 ∧
    num (put (put (put (put m (dA i) 8 addr) (dA i + 8) 4 v) (dA i + 12) 2 fl) (dA i + 14) 2 nx) (dA i + 8) 4 = v % 256 ^ 4 ∧
    num (put (put (put (put m (dA i) 8 addr) (dA i + 8) 4 v) (dA i + 12) 2 fl) (dA i + 14) 2 nx) (dA i + 12) 2 = fl % 256 ^ 2 ∧
    num (put (put (put (put m (dA i) 8 addr) (dA i + 8) 4 v) (dA i + 12) 2 fl) (dA i + 14) 2 nx) (dA i + 14) 2 = nx % 256 ^ 2 := by
  refine ⟨?_, ?_, ?_, ?_⟩
  · rw [num_put_far _ _ _ _ _ _ (by omega), num_put_far _ _ _ _ _ _ (by omega), num_put_far _ _ _ _ _ _ (by omega), num_put]
  · rw [num_put_far _ _ _ _ _ _ (by omega), num_put_far _ _ _ _ _ _ (by omega), num_put]
  · rw [num_put_far _ _ _ _ _ _ (by omega), num_put]
  · rw [num_put]
end Go.Proofs.Ytjhibbhinbdciaa
