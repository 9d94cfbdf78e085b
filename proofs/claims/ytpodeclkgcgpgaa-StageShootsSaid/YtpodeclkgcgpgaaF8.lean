import Derived.Test.YtpodeclkgcgpgaaF7
import Derived.Test.YtpodeclkgcgpgaaF5
/- FrameRound: one frame that waits, acknowledgements in any order. -/
namespace Go.Proofs.Ytpodeclkgcgpgaa
set_option linter.unusedVariables false
open Go.RowKit
set_option maxRecDepth 100000

/-- how many have not acknowledged yet -/
def cntD (D : Nat → Bool) : Nat → Nat
  | 0 => 0
  | n + 1 => cntD D n + if D n then 0 else 1
def setD (D : Nat → Bool) (k : Nat) : Nat → Bool := fun j => if j = k then true else D j
theorem cntD_congr {D E : Nat → Bool} {n : Nat} (h : ∀ j, j < n → D j = E j) : cntD D n = cntD E n := by
  induction n with
  | zero => rfl
  | succ n ih => simp only [cntD]; rw [ih (fun j hj => h j (by omega)), h n (by omega)]
theorem cntD_set (D : Nat → Bool) {k n : Nat} (hk : k < n) : cntD (setD D k) n + (if D k then 0 else 1) = cntD D n := by
  induction n with
  | zero => omega
  | succ n ih =>
    simp only [cntD]
    by_cases e : k = n
    · subst e
      rw [cntD_congr (D := setD D k) (E := D) (fun j hj => by unfold setD; rw [if_neg (by omega)])]
      have : setD D k k = true := by unfold setD; rw [if_pos rfl]
      rw [this]; simp
    · have h1 := ih (by omega)
      have : setD D k n = D n := by unfold setD; rw [if_neg (fun h => e h.symm)]
      rw [this]; omega
theorem cntD_zero {D : Nat → Bool} {n : Nat} : cntD D n = 0 ↔ ∀ j, j < n → D j = true := by
  induction n with
  | zero => simp [cntD]
  | succ n ih =>
    simp only [cntD]
    constructor
    · intro h j hj
      have h1 : cntD D n = 0 := by omega
      by_cases e : j = n
      · subst e
        rcases hD : D j with _ | _
        · rw [hD] at h; simp at h
        · rfl
      · exact ih.1 h1 j (by omega)
    · intro h
      rw [ih.2 (fun j hj => h j (by omega)), h n (by omega)]; rfl
theorem cntD_none (n : Nat) : cntD (fun _ => false) n = n := by
  induction n with
  | zero => rfl
  | succ n ih => simp only [cntD]; rw [ih]; simp
theorem cntD_le (D : Nat → Bool) (n : Nat) : cntD D n ≤ n := by
  induction n with
  | zero => simp [cntD]
  | succ n ih => simp only [cntD]; split <;> omega
/-- the state on the way -/
inductive Rd (h : Nat) (D : Nat → Bool) (mark : Int) : PSt → Prop
  | on (B : Nat) (m : Nat → Int) (hB : Bits h D B) (hm : num m 4104 8 = mark) (hL : cntD D (h + 1) ≠ 0) : Rd h D mark ⟨[-1, -2], [0, (B : Int)], m, 0⟩
  | off (m : Nat → Int) (hm : num m 4104 8 = 0) (hL : cntD D (h + 1) = 0) : Rd h D mark ⟨[-1, 0], [0, 0], m, 0⟩
theorem list2 {l : List Int} {a b : Int} (hl : l.length = 2) (h0 : l[0]? = some a) (h1 : l[1]? = some b) : l = [a, b] := by
  match l, hl with
  | [x, y], _ => simp at h0 h1; rw [h0, h1]
theorem Rd.ack {h k B : Nat} {D : Nat → Bool} {mark : Int} {m : Nat → Int} (hB : Bits h D B) (hm : num m 4104 8 = mark) (h8 : h ≤ 8) (hk : k ≤ h) :
    Rd h (setD D k) mark (ackN (notB ((2 ^ (if k = h then 63 else k) : Nat) : Int)) ⟨[-1, -2], [0, (B : Int)], m, 0⟩ 2).z ∧
    (ackN (notB ((2 ^ (if k = h then 63 else k) : Nat) : Int)) ⟨[-1, -2], [0, (B : Int)], m, 0⟩ 2).cnt = if cntD (setD D k) (h + 1) = 0 then 1 else 0 := by
  obtain ⟨B', hb, hB'⟩ := hB.ack h8 hk
  have hz := hB'.zero h8
  have hc := cntD_zero (D := setD D k) (n := h + 1)
  generalize (notB ((2 ^ (if k = h then 63 else k) : Nat) : Int)) = nb at *
  have hiff : B' = 0 ↔ cntD (setD D k) (h + 1) = 0 := by
    rw [hz, hc]
    exact ⟨fun h j hj => h j (by omega), fun h j hj => h j (by omega)⟩
  by_cases e : B' = 0
  · have e2 := hiff.1 e
    rw [if_pos e2]
    have hbz : bits .and .u64 (B : Int) nb = 0 := by rw [hb, e]; rfl
    have hA : ackN nb ⟨[-1, -2], [0, (B : Int)], m, 0⟩ 2 = ⟨[-1, 0], [0, 0], clrF m 1, 1⟩ := by
      simp [ackN, Go.Proofs.Ytpodeclkgcgpgaa.ack1, hbz]
    rw [hA]
    exact ⟨Rd.off _ (num_zero (fun i h1 h2 => show clrF m 1 i = 0 from if_pos (by omega))) e2, rfl⟩
  · have e2 := fun h => e (hiff.2 h)
    rw [if_neg e2]
    have hbz : ¬ bits .and .u64 (B : Int) nb = 0 := by rw [hb]; omega
    have hA : ackN nb ⟨[-1, -2], [0, (B : Int)], m, 0⟩ 2 = ⟨[-1, -2], [0, (B' : Int)], m, 0⟩ := by
      simp [ackN, Go.Proofs.Ytpodeclkgcgpgaa.ack1, hbz]
      rw [hb]
    rw [hA]
    exact ⟨Rd.on _ _ hB' hm e2, rfl⟩
/-- the cells of 'done' -/
def doneC (D : Nat → Bool) : Array Value := ((List.range 9).map (fun j => Value.bool (D j))).toArray
theorem doneC_at (D : Nat → Bool) {k : Nat} (hk : k < 9) : (doneC D)[k]? = some (.bool (D k)) := by
  unfold doneC; rw [List.getElem?_toArray, List.getElem?_map, List.getElem?_range hk]; rfl
theorem doneC_set (D : Nat → Bool) {k : Nat} (hk : k < 9) : (doneC D).setIfInBounds k (.bool true) = doneC (setD D k) := by
  apply Array.ext_getElem?
  intro j
  rw [Array.getElem?_setIfInBounds]
  have hs : ∀ E : Nat → Bool, (doneC E).size = 9 := fun E => by simp [doneC]
  rcases Nat.lt_or_ge j 9 with hj | hj
  · rw [doneC_at _ hj, doneC_at _ hj, hs]
    unfold setD
    by_cases e : k = j
    · subst e; simp [hk]
    · rw [if_neg e, if_neg (fun h => e h.symm)]
  · rw [Array.getElem?_eq_none (by rw [hs]; omega), Array.getElem?_eq_none (by rw [hs]; omega), if_neg (by omega)]
end Go.Proofs.Ytpodeclkgcgpgaa
