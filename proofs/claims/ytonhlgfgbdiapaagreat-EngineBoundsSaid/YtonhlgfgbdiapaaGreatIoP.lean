import Derived.Test.YtonhlgfgbdiapaaGreatIo
/- Records, in plain numbers. -/
namespace Go.Proofs.YtonhlgfgbdiapaaGreat
set_option linter.unusedVariables false
set_option linter.unusedSimpArgs false
open Go.RowKit
/-- the records of a ring at 0 are of the kind 5 -/
def KindsOk (N : Nat) (m : Nat → Int) : Prop := ∀ i, i < N → num m (i * 16 + 4) 4 = 5
theorem kinds_rec {s : Us} {m : Nat → Int} {N : Nat} (hrd : s.rd = true) (hr : s.ring = 0) (hf : s.fi = 0) (hu : s.un = N) (hN : N < 255) (h : KindsOk N m) (dev addr : Int) : KindsOk (N + 1) (recM s m dev 5 addr) := by
  have hok : recOk s = true := by unfold recOk; simp [hrd, hu, hN]
  have hA : recA s = N * 16 := by unfold recA; rw [hr, hf, hu]; omega
  unfold recM
  rw [hok, hA]
  simp only [if_true]
  intro i hi
  rcases Nat.lt_or_ge i N with hlt | hge
  · rw [num_put_far _ _ _ _ _ _ (by omega), num_put_far _ _ _ _ _ _ (by omega), num_put_far _ _ _ _ _ _ (by omega)]
    exact h i hlt
  · obtain rfl : i = N := by omega
    rw [num_put_far _ _ _ _ _ _ (by omega), num_put]
    decide
theorem wr_put (n : Nat) (m : Nat → Int) (a k : Nat) (hk : okS (k : Int) = true) (hn : a + k ≤ n * 4096) (v : Int) : wrR 0 n m (a : Int) (k : Int) v = put m a k v ∧ (okS (k : Int) && hasR 0 n (a : Int) (k : Int)) = true := by
  have h : hasR 0 n (a : Int) (k : Int) = true := hasR_iff.2 ⟨by omega, by omega, by omega, by omega⟩
  unfold wrR
  rw [hk, h]
  exact ⟨by simp, rfl⟩
theorem rd_num (n : Nat) (m : Nat → Int) (a k : Nat) (hk : okS (k : Int) = true) (hn : a + k ≤ n * 4096) : rdR 0 n m (a : Int) (k : Int) = (num m a k, true) := by
  have h : hasR 0 n (a : Int) (k : Int) = true := hasR_iff.2 ⟨by omega, by omega, by omega, by omega⟩
  unfold rdR
  rw [hk, h]
  simp
theorem recM_bd {s : Us} {m : Nat → Int} (hm : ∀ x, 0 ≤ m x ∧ m x < 256) (d k a : Int) : ∀ x, 0 ≤ recM s m d k a x ∧ recM s m d k a x < 256 := by
  unfold recM
  split
  · exact put_bd (put_bd (put_bd hm _ _ _) _ _ _) _ _ _
  · exact hm
end Go.Proofs.YtonhlgfgbdiapaaGreat
