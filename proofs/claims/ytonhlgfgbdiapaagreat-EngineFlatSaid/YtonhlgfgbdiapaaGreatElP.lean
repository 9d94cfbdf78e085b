import Derived.Test.YtonhlgfgbdiapaaGreatEgP
/- The engine's laws, plain. -/
namespace Go.Proofs.YtonhlgfgbdiapaaGreat
set_option linter.unusedVariables false
set_option linter.unusedSimpArgs false
open Go.RowKit
/-- told three places and begun by a write of its control -/
def toldE (a b k : Nat) : Eg := putE (putE (putE eg0 0 a) 8 b) 16 k
theorem tellE (a b k : Nat) : writeE (writeE (writeE eg0 0 8 a) 8 8 b) 16 8 k = toldE a b k := by
  have h : ∀ (s : Eg) (o v : Nat), s.st ≠ 1 → (o = 0 ∨ o = 8 ∨ o = 16) → writeE s o 8 v = putE s o v := by
    rintro s o v hs (rfl | rfl | rfl)
    all_goals simp [writeE, setE, fitsE, hs]
  rw [h eg0 0 a (show (0 : Nat) ≠ 1 by decide) (.inl rfl), h _ 8 b (show (0 : Nat) ≠ 1 by decide) (.inr (.inl rfl)), h _ 16 k (show (0 : Nat) ≠ 1 by decide) (.inr (.inr rfl))]
  rfl
def begE (a b k : Nat) : Eg := cmdE (toldE a b k) 1
theorem wr24 (s : Eg) (size : Int) (hz : size = 4 ∨ size = 8) (v : Nat) : writeE s 24 size v = cmdE s v := by
  rcases hz with rfl | rfl
  all_goals simp [writeE, fitsE]
def rightE (a b k : Nat) : Bool := decide (0 < k ∧ k ≤ 4096 ∧ k % 8 = 0 ∧ a % 8 = 0 ∧ b % 8 = 0)
theorem badE_told (a b k : Nat) : badE (toldE a b k) = !rightE a b k := by
  unfold badE rightE
  show (decide (k = 0) || decide (4096 < k) || decide (a % 8 ≠ 0) || decide (b % 8 ≠ 0) || decide (k % 8 ≠ 0)) = _
  rw [Bool.eq_iff_iff]
  simp
  omega
theorem begE_eq (a b k : Nat) : begE a b k = { toldE a b k with st := if rightE a b k then 1 else 3, cp := 0 } := by
  unfold begE cmdE
  rw [if_neg (show ¬ (toldE a b k).st = 1 by show ¬ (0 : Nat) = 1; decide), if_pos rfl, badE_told]
  cases rightE a b k <;> rfl
theorem begE_st (a b k : Nat) : (begE a b k).st = if rightE a b k then 1 else 3 := by rw [begE_eq]
theorem stepS_idle {base n : Nat} {s : Eg} (h : s.st ≠ 1) : stepS base n s = s := if_neg h
theorem stepM_idle {base n : Nat} {s : Eg} {m : Nat → Int} (h : s.st ≠ 1) : stepM base n s m = m := if_neg (fun e => h e.1)
theorem stepR_idle {base n : Nat} {s : Eg} (h : s.st ≠ 1) : stepR base n s = (0, 0, false) := if_neg (fun e => h e.1)
/-- behind j steps of an engine that was begun -/
structure RunE (a b k : Nat) (s : Eg) : Prop where
  r0 : s.rg 0 = a
  r8 : s.rg 8 = b
  r16 : s.rg 16 = k
  r40 : s.rg 40 = 0
def fitJ (base n a b j : Nat) : Bool := hasR base n (((a + 8 * j) % 18446744073709551616 : Nat) : Int) 8 && hasR base n (((b + 8 * j) % 18446744073709551616 : Nat) : Int) 8
def EndI (a b k : Nat) (j : Nat) (s : Eg) : Prop :=
  RunE a b k s ∧ ((s.st = 1 ∧ s.cp = 8 * j ∧ 8 * j < k ∧ ∀ i, i < j → fitJ 0 4 a b i = true) ∨ (s.st = 2 ∧ 8 * j = k ∧ ∀ i, i < j → fitJ 0 4 a b i = true) ∨ (s.st = 3 ∧ 8 * j ≤ k ∧ ∃ i, 8 * i < k ∧ fitJ 0 4 a b i = false))
theorem RunE.beg (a b k : Nat) : RunE a b k (begE a b k) := by rw [begE_eq]; exact ⟨rfl, rfl, rfl, rfl⟩
theorem RunE.step {a b k base n : Nat} {s : Eg} (h : RunE a b k s) : RunE a b k (stepS base n s) := by
  unfold stepS
  split
  · split
    · split <;> exact ⟨h.r0, h.r8, h.r16, h.r40⟩
    · exact ⟨h.r0, h.r8, h.r16, h.r40⟩
  · exact h
theorem goF_fit {a b k base n j : Nat} {s : Eg} (h : RunE a b k s) (hc : s.cp = 8 * j) : goF base n s = fitJ base n a b j := by
  unfold goF fitJ
  rw [h.r0, h.r8, hc]
theorem EndI.beg {a b k : Nat} (hr : rightE a b k = true) : EndI a b k 0 (begE a b k) := by
  refine ⟨RunE.beg a b k, .inl ?_⟩
  unfold rightE at hr
  simp at hr
  rw [begE_eq]
  refine ⟨?_, rfl, by omega, fun i hi => by omega⟩
  show (if rightE a b k = true then 1 else 3) = 1
  rw [if_pos (by unfold rightE; simp; omega)]
theorem EndI.step {a b k j : Nat} {s : Eg} (h : EndI a b k j s) (hs : s.st = 1) (hk : k % 8 = 0) : EndI a b k (j + 1) (stepS 0 4 s) := by
  refine ⟨h.1.step, ?_⟩
  obtain ⟨hr, h | h | h⟩ := h
  · obtain ⟨_, hc, hl, hf⟩ := h
    have hg := goF_fit (base := 0) (n := 4) hr hc
    unfold stepS
    rw [if_pos hs]
    cases hgo : goF 0 4 s with
    | true =>
      rw [if_pos rfl]
      have hf' : ∀ i, i < j + 1 → fitJ 0 4 a b i = true := fun i hi => by
        by_cases hij : i = j
        · rw [hij, ← hg, hgo]
        · exact hf i (by omega)
      by_cases hlt : s.cp + 8 < s.rg 16
      · rw [if_pos hlt]
        rw [hr.r16, hc] at hlt
        exact .inl ⟨hs, by show s.cp + 8 = _; omega, by omega, hf'⟩
      · rw [if_neg hlt]
        rw [hr.r16, hc] at hlt
        exact .inr (.inl ⟨rfl, by omega, hf'⟩)
    | false =>
      rw [if_neg (by decide)]
      exact .inr (.inr ⟨rfl, by omega, j, hl, by rw [← hg, hgo]⟩)
  · omega
  · omega
/-- all places are there -/
def fitsAll (a b k : Nat) : Bool := decide (a ≤ 16384 ∧ b ≤ 16384 ∧ k ≤ 16384 - a ∧ k ≤ 16384 - b)
theorem has4 (x : Nat) : hasR 0 4 ((x % 18446744073709551616 : Nat) : Int) 8 = decide (x % 18446744073709551616 + 8 ≤ 16384) := by
  rw [Bool.eq_iff_iff, hasR_iff]
  simp
  omega
theorem fitJ_iff (a b j : Nat) : fitJ 0 4 a b j = true ↔ ((a + 8 * j) % 18446744073709551616 + 8 ≤ 16384 ∧ (b + 8 * j) % 18446744073709551616 + 8 ≤ 16384) := by
  unfold fitJ
  rw [has4, has4]
  simp
theorem fits_all {a b k : Nat} (ha : a < 18446744073709551616) (hb : b < 18446744073709551616) (hk : 8 ≤ k ∧ k ≤ 4096 ∧ k % 8 = 0) (j : Nat) (hj : 8 * j = k) (h : ∀ i, i < j → fitJ 0 4 a b i = true) : fitsAll a b k = true := by
  have h0 := (fitJ_iff a b 0).1 (h 0 (by omega))
  have h1 := (fitJ_iff a b (j - 1)).1 (h (j - 1) (by omega))
  unfold fitsAll
  simp
  omega
theorem fits_not {a b k : Nat} (hk : 8 ≤ k ∧ k ≤ 4096 ∧ k % 8 = 0) (i : Nat) (hi : 8 * i < k) (h : fitJ 0 4 a b i = false) : fitsAll a b k = false := by
  cases hf : fitsAll a b k with
  | false => rfl
  | true =>
    unfold fitsAll at hf
    simp at hf
    have := (fitJ_iff a b i).2 (by omega)
    rw [h] at this
    cases this
theorem EndI.done {a b k j : Nat} {s : Eg} (h : EndI a b k j s) (hs : s.st ≠ 1) (ha : a < 18446744073709551616) (hb : b < 18446744073709551616) (hk : 8 ≤ k ∧ k ≤ 4096 ∧ k % 8 = 0) :
    8 * j ≤ k ∧ ((fitsAll a b k = true ∧ s.st = 2 ∧ 8 * j = k) ∨ (fitsAll a b k = false ∧ s.st = 3)) := by
  obtain ⟨_, h | h | h⟩ := h
  · exact absurd h.1 hs
  · obtain ⟨h1, h2, h3⟩ := h
    exact ⟨by omega, .inl ⟨fits_all ha hb hk j h2 h3, h1, h2⟩⟩
  · obtain ⟨h1, h2, i, h3, h4⟩ := h
    exact ⟨h2, .inr ⟨fits_not hk i h3 h4, h1⟩⟩
theorem EndI.lt {a b k j : Nat} {s : Eg} (h : EndI a b k j s) (hs : s.st = 1) : 8 * j < k := by
  obtain ⟨_, h | h | h⟩ := h
  · exact h.2.2.1
  · omega
  · omega
/-- a run that goes on: all places are there -/
theorem run_go {a b k base n j : Nat} {s : Eg} (h : RunE a b k s) (hs : s.st = 1) (hc : s.cp = 8 * j) (hf : fitJ base n a b j = true) :
    stepS base n s = (if 8 * j + 8 < k then { s with cp := 8 * j + 8 } else { s with st := 2, cp := 8 * j + 8 }) ∧ stepR base n s = (0, 0, false) := by
  have hg := goF_fit (base := base) (n := n) h hc
  have h1 : stepS base n s = (if 8 * j + 8 < k then { s with cp := 8 * j + 8 } else { s with st := 2, cp := 8 * j + 8 }) := by
    unfold stepS
    rw [if_pos hs, hg, if_pos hf, h.r16, hc]
  refine ⟨h1, ?_⟩
  unfold stepR
  split
  · unfold msgE; rw [h.r40]; rfl
  · rfl
theorem run_mem {a b k base n j : Nat} {s : Eg} (m : Nat → Int) (h : RunE a b k s) (hs : s.st = 1) (hc : s.cp = 8 * j) (hf : fitJ base n a b j = true) :
    stepM base n s m = wrR base n m (((b + 8 * j) % 18446744073709551616 : Nat) : Int) 8 (rdR base n m (((a + 8 * j) % 18446744073709551616 : Nat) : Int) 8).1 := by
  unfold stepM
  rw [if_pos ⟨hs, (goF_fit (base := base) (n := n) h hc).trans hf⟩, h.r0, h.r8, hc]
end Go.Proofs.YtonhlgfgbdiapaaGreat
