import Derived.Test.YtjhibbhinbdciaaQd1
/- VirtqLoops, plain: chains that go round. -/
namespace Go.Proofs.Ytjhibbhinbdciaa
set_option linter.unusedVariables false
set_option linter.unusedSimpArgs false
open Go.RowKit
set_option maxRecDepth 100000
/-- each of the first k descriptors is all right, readable, and goes on within them -/
def Rounds (m : Nat → Int) (k : Nat) (nx : Nat → Nat) (lo hi : Nat) : Prop :=
  ∀ j, lo ≤ j → j < hi → num m (dA j) 8 = 4096 ∧ num m (dA j + 8) 4 = 8 ∧ num m (dA j + 12) 2 = 1 ∧ num m (dA j + 14) 2 = (nx j : Int)
theorem chain_round {m : Nat → Int} {q : Qu} (hds : q.ds = 256) (hsz : 1 ≤ q.sz ∧ q.sz ≤ 64) {nx : Nat → Nat} (hn : ∀ j, j < q.sz → nx j < q.sz) (h : Rounds m q.sz nx 0 q.sz) :
    ∀ (f i : Nat) (R W : List Sg), i < q.sz → (chainQ 0 2 m q f (i : Int) false R W).2 = 31
  | 0, i, R, W, hi => by
    unfold chainQ
    rw [if_neg (by omega)]
  | f + 1, i, R, W, hi => by
    obtain ⟨h1, h2, h3, h4⟩ := h i (Nat.zero_le _) hi
    obtain ⟨e1, e2⟩ := dsD_in (n := 2) (by decide) m q hds i (by omega)
    have hok : dsOk 0 2 m q i = true := by rw [e2, h1, h2, h3]; decide
    unfold chainQ
    rw [if_neg (by omega), show ((i : Int)).toNat = i from Int.toNat_natCast i, hok, e1, h1, h2, h3, h4, if_neg (fun h => h.elim (fun h => by cases h) (fun h => by cases h.1)), if_pos (show (1 : Int) / 2 % 2 = 0 by decide), if_neg (show ¬ ((1 : Int) % 2 = 0) by decide)]
    exact chain_round hds hsz hn h f (nx i) _ _ (hn i hi)
theorem Rounds.put {m : Nat → Int} {k : Nat} {nx : Nat → Nat} {lo hi : Nat} (h : Rounds m k nx lo hi) (i : Nat) (hi64 : i < 64) (x : Nat) (hx : x < 65536) (hhi : hi ≤ 64) :
    Rounds (putD 2 m (i : Int) 4096 8 1 (x : Int)) k (fun j => if j = i then x else nx j) lo hi := by
  intro j hj1 hj2
  rw [putD_eq (by decide) m i hi64]
  by_cases e : j = i
  · subst e
    simp only [if_pos]
    obtain ⟨a1, a2, a3, a4⟩ := num_same m j 4096 8 (1 % 18446744073709551616) ((x : Int) % 18446744073709551616)
    refine ⟨by rw [a1]; decide, by rw [a2]; decide, by rw [a3]; decide, ?_⟩
    rw [a4, show (256 : Int) ^ 2 = 65536 by decide]
    omega
  · simp only [if_neg e]
    obtain ⟨h1, h2, h3, h4⟩ := h j hj1 hj2
    have f0 := num_far m i j (fun h => e h.symm) 4096 8 (1 % 18446744073709551616) ((x : Int) % 18446744073709551616) 0 8 (by decide)
    simp only [Nat.add_zero] at f0
    rw [f0, num_far _ _ _ (fun h => e h.symm) _ _ _ _ 8 4 (by decide), num_far _ _ _ (fun h => e h.symm) _ _ _ _ 12 2 (by decide), num_far _ _ _ (fun h => e h.symm) _ _ _ _ 14 2 (by decide)]
    exact ⟨h1, h2, h3, h4⟩
/-- the next one more is laid -/
theorem Rounds.more {m : Nat → Int} {k : Nat} {nx : Nat → Nat} {hi : Nat} (h : Rounds m k nx 0 hi) (hhi : hi < 64) (x : Nat) (hx : x < 65536) :
    Rounds (putD 2 m (hi : Int) 4096 8 1 (x : Int)) k (fun j => if j = hi then x else nx j) 0 (hi + 1) := by
  intro j hj1 hj2
  by_cases e : j = hi
  · subst e
    rw [putD_eq (by decide) m j hhi]
    simp only [if_pos]
    obtain ⟨a1, a2, a3, a4⟩ := num_same m j 4096 8 (1 % 18446744073709551616) ((x : Int) % 18446744073709551616)
    refine ⟨by rw [a1]; decide, by rw [a2]; decide, by rw [a3]; decide, ?_⟩
    rw [a4, show (256 : Int) ^ 2 = 65536 by decide]
    omega
  · exact h.put hi hhi x hx (by omega) j hj1 (by omega)
/-- what stands far of the descriptors -/
theorem putD_far {m : Nat → Int} (i : Nat) (hi : i < 64) (addr v fl nx : Int) (o k : Nat) (ho : 1280 ≤ o) : num (putD 2 m (i : Int) addr v fl nx) o k = num m o k := by
  rw [putD_eq (by decide) m i hi]
  have : dA i + 16 ≤ 1280 := by unfold dA; omega
  rw [num_put_far _ _ _ _ _ _ (by omega), num_put_far _ _ _ _ _ _ (by omega), num_put_far _ _ _ _ _ _ (by omega), num_put_far _ _ _ _ _ _ (by omega)]
theorem Rounds.far {m : Nat → Int} {k : Nat} {nx : Nat → Nat} {hi : Nat} (h : Rounds m k nx 0 hi) (hhi : hi ≤ 64) (o s : Nat) (v : Int) (ho : 1280 ≤ o) : Rounds (Go.Proofs.Ytjhibbhinbdciaa.put m o s v) k nx 0 hi := by
  intro j hj1 hj2
  have : dA j + 16 ≤ 1280 := by unfold dA; omega
  rw [num_put_far _ _ _ _ _ _ (by omega), num_put_far _ _ _ _ _ _ (by omega), num_put_far _ _ _ _ _ _ (by omega), num_put_far _ _ _ _ _ _ (by omega)]
  exact h j hj1 hj2
/-- the head that is taken goes round -/
theorem loop_next {m : Nat → Int} {k : Nat} (hk : 1 ≤ k ∧ k ≤ 64) {nx : Nat → Nat} (hn : ∀ j, j < k → nx j < k) (h : Rounds m k nx 0 k) (hz : num m 2052 2 = 0) :
    nxQ 0 2 (wrR 0 2 m 2050 2 1) ⟨true, false, k, 256, 2048, 2304, 0, 0⟩ = ⟨0, [], [], false, 31, ⟨true, true, k, 256, 2048, 2304, 1, 0⟩⟩ := by
  have w1 := wrR_in (n := 2) (a := 2050) (s := 2) m 1 (by omega) (by decide)
  rw [show ((2050 : Nat) : Int) = 2050 from rfl, show ((2 : Nat) : Int) = 2 from rfl] at w1
  rw [w1]
  obtain ⟨M, hM⟩ : ∃ M, put m 2050 2 1 = M := ⟨_, rfl⟩
  have i1 : num M 2050 2 = 1 := by rw [← hM, num_put]; decide
  have i2 : num M 2052 2 = 0 := by rw [← hM, num_put_far _ _ _ _ _ _ (by omega), hz]
  have hR : Rounds M k nx 0 k := hM ▸ h.far hk.2 2050 2 1 (by decide)
  rw [hM]
  have r1 := rdR_in (n := 2) M (a := 2050) (s := 2) (by omega) (by decide)
  have r2 := rdR_in (n := 2) M (a := 2052) (s := 2) (by omega) (by decide)
  rw [i1, show ((2 : Nat) : Int) = 2 from rfl] at r1
  rw [i2, show ((2 : Nat) : Int) = 2 from rfl] at r2
  have hA : headA ⟨true, false, k, 256, 2048, 2304, 0, 0⟩ = 2052 := by unfold headA; simp
  have hah : aheadQ 0 2 M ⟨true, false, k, 256, 2048, 2304, 0, 0⟩ = 1 := by
    unfold aheadQ
    show ((rdR 0 2 M ((2050 : Nat) : Int) 2).1 - ((0 : Nat) : Int)) % 65536 = 1
    rw [r1]
    decide
  have hv : nextV 0 2 M ⟨true, false, k, 256, 2048, 2304, 0, 0⟩ = (0, true, 0) := by
    unfold nextV
    rw [hah, hA, r2, if_neg (show ¬ ((rdR 0 2 M ((2050 : Nat) : Int) 2).2 = false) by rw [r1]; decide), if_neg (by decide), if_neg (show ¬ ((k : Int) < 1) from by have := hk.1; omega), if_neg (by decide)]
  have hq : nextQ 0 2 M ⟨true, false, k, 256, 2048, 2304, 0, 0⟩ = ⟨true, false, k, 256, 2048, 2304, 1, 0⟩ := by
    unfold nextQ
    rw [hv]
    rfl
  have hc : (chainQ 0 2 M ⟨true, false, k, 256, 2048, 2304, 1, 0⟩ k (0 : Int) false [] []).2 = 31 := chain_round (q := ⟨true, false, k, 256, 2048, 2304, 1, 0⟩) rfl hk hn hR k 0 [] [] (show 0 < k from hk.1)
  unfold nxQ
  rw [if_pos (show usQ ⟨true, false, k, 256, 2048, 2304, 0, 0⟩ = 0 from rfl), hv, hq, if_pos rfl]
  show (if (chainQ 0 2 M ⟨true, false, k, 256, 2048, 2304, 1, 0⟩ k (0 : Int) false [] []).2 = 0 then _ else _) = _
  rw [if_neg (by rw [hc]; decide), hc]
end Go.Proofs.Ytjhibbhinbdciaa
