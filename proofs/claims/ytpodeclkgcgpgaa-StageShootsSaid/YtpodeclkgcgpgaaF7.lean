import Derived.Test.YtpodeclkgcgpgaaF4
/- Plain laws for FrameMany and FrameRound: states frame by frame. -/
namespace Go.Proofs.Ytpodeclkgcgpgaa
set_option linter.unusedVariables false
open Go.RowKit
set_option maxRecDepth 100000

theorem Pt.setO {k : Nat} {F : Nat → Int × Int} {s : PSt} (h : Pt k F s) (i : Nat) (a : Int) (m : Nat → Int) (c : Nat) : Pt k (fun j => if j = i then (a, (F j).2) else F j) ⟨s.ow.set i a, s.bt, m, c⟩ := by
  refine ⟨by simpa using h.lo, h.lb, fun j hj => ?_⟩
  have := h.at_ j hj
  have h1 := h.lo
  by_cases e : j = i
  · subst e
    simp only [if_pos]
    rw [List.getElem?_set_self (by omega)]; exact ⟨rfl, this.2⟩
  · simp only [if_neg e]
    rw [List.getElem?_set_ne (Ne.symm e)]; exact this
/-- the first free frame of a state -/
theorem Pt.free {k : Nat} {F : Nat → Int × Int} {s : PSt} (h : Pt k F s) {i : Nat} (hi : i < k) (h0 : (F i).1 = 0) (hn : ∀ j, j < i → (F j).1 ≠ 0) : freeP s.ow = some i :=
  freeP_some (by rw [(h.at_ i hi).1, h0]) (fun j hj e => by rw [(h.at_ j (by omega)).1] at e; exact hn j hj (by simpa using e))
theorem Pt.full {k : Nat} {F : Nat → Int × Int} {s : PSt} (h : Pt k F s) (hn : ∀ j, j < k → (F j).1 ≠ 0) : freeP s.ow = none :=
  freeP_none (fun j e => by
    rcases Nat.lt_or_ge j k with hj | hj
    · rw [(h.at_ j hj).1] at e; exact hn j hj (by simpa using e)
    · rw [List.getElem?_eq_none (by rw [h.lo]; exact hj)] at e; cases e)
theorem Pt.take {k : Nat} {F : Nat → Int × Int} {s : PSt} (h : Pt k F s) {i : Nat} (hi : i < k) (h0 : (F i).1 = 0) (hn : ∀ j, j < i → (F j).1 ≠ 0) {a : Int} (ha : 1 ≤ a ∧ a ≤ 8) :
    takeP s.ow a = ((i : Int), 0, s.ow.set i a) ∧ Pt k (fun j => if j = i then (a, (F j).2) else F j) ⟨(takeP s.ow a).2.2, s.bt, s.m, s.cnt⟩ := by
  have hf := h.free hi h0 hn
  have hT : takeP s.ow a = ((i : Int), 0, s.ow.set i a) := by
    unfold takeP
    rw [if_pos (okO_iff.2 (.inr ha)), hf]
  rw [hT]
  exact ⟨rfl, h.setO i a _ _⟩
theorem Pt.rel {k : Nat} {F : Nat → Int × Int} {s : PSt} (h : Pt k F s) {i : Nat} (hi : i < k) {res : Int} (hr : res ≤ i) (h0 : (F i).1 ≠ 0) (h2 : (F i).1 ≠ -2) (hn : Nat) :
    relOk res s.ow i = true ∧ Pt k (fun j => if j = i then (-2, allB hn) else F j) (relP res hn s i) ∧ (relP res hn s i).m = s.m := by
  have hk : relOk res s.ow i = true := by rw [h.isOk hi]; simp [hr, h0, h2]
  refine ⟨hk, ?_⟩
  unfold relP
  rw [if_pos hk]
  exact ⟨h.set_ i _ _ _ _, rfl⟩
theorem Pt.relNot {k : Nat} {F : Nat → Int × Int} {s : PSt} (h : Pt k F s) {i : Nat} (hi : i < k) (res : Int) (h0 : (F i).1 = 0 ∨ (F i).1 = -2) (hn : Nat) :
    relOk res s.ow i = false ∧ relP res hn s i = s := by
  have hk : relOk res s.ow i = false := by rw [h.isOk hi]; rcases h0 with h | h <;> simp [h]
  refine ⟨hk, ?_⟩
  unfold relP
  rw [hk]; rfl
theorem nfree_none {nb : Int} {F : Nat → Int × Int} {i : Nat} (h : ∀ j, j < i → freed nb (F j) = false) : nfree nb F i = 0 := by
  induction i with
  | zero => rfl
  | succ i ih => simp only [nfree]; rw [ih (fun j hj => h j (by omega)), h i (by omega)]; rfl
theorem nfree_low {nb : Int} {F : Nat → Int × Int} {i c : Nat} (h : ∀ j, j < i → freed nb (F j) = decide (j < c)) : nfree nb F i = min i c := by
  induction i with
  | zero => simp [nfree]
  | succ i ih =>
    simp only [nfree]; rw [ih (fun j hj => h j (by omega)), h i (by omega)]
    by_cases e : i < c
    · simp [e]; omega
    · simp [e]; omega
theorem nfree_high {nb : Int} {F : Nat → Int × Int} {i c : Nat} (h : ∀ j, j < i → freed nb (F j) = decide (c ≤ j)) : nfree nb F i = i - c := by
  induction i with
  | zero => simp [nfree]
  | succ i ih =>
    simp only [nfree]; rw [ih (fun j hj => h j (by omega)), h i (by omega)]
    by_cases e : c ≤ i
    · simp [e]; omega
    · simp [e]; omega
theorem cntF_low {F : Nat → Int × Int} {o : Int} {i c : Nat} (h : ∀ j, j < i → ((F j).1 = o ↔ j < c)) : cntF F o i = min i c := by
  induction i with
  | zero => simp [cntF]
  | succ i ih =>
    simp only [cntF]; rw [ih (fun j hj => h j (by omega))]
    have := h i (by omega)
    by_cases e : i < c
    · rw [if_pos (this.2 e)]; omega
    · rw [if_neg (fun h => e (this.1 h))]; omega
theorem cntF_high {F : Nat → Int × Int} {o : Int} {i c : Nat} (h : ∀ j, j < i → ((F j).1 = o ↔ c ≤ j)) : cntF F o i = i - c := by
  induction i with
  | zero => simp [cntF]
  | succ i ih =>
    simp only [cntF]; rw [ih (fun j hj => h j (by omega))]
    have := h i (by omega)
    by_cases e : c ≤ i
    · rw [if_pos (this.2 e)]; omega
    · rw [if_neg (fun h => e (this.1 h))]; omega
/-- an acknowledgement's number -/
theorem ack_num (h : Nat) (k : Nat) (hk : k < h) (h8 : h ≤ 8) : (2 : Int) ^ ((k : Nat) : Int).toNat = ((2 ^ (if k = h then 63 else k) : Nat) : Int) := by
  rw [if_neg (by omega)]; simp
theorem dev_num (h : Nat) : (9223372036854775808 : Int) = ((2 ^ (if h = h then 63 else h) : Nat) : Int) := by rw [if_pos rfl]; decide
theorem ackP_in {hn n : Nat} {s : PSt} {k : Nat} (hk : k < hn) : ackP hn n s k = ackN (notB (2 ^ ((k : Nat) : Int).toNat)) s n := by
  unfold ackP; rw [if_pos (by simp; omega)]
/-- eight bytes of a cleared frame, of another one -/
theorem num_zero {m : Nat → Int} {a n : Nat} (h : ∀ i, a ≤ i → i < a + n → m i = 0) : num m a n = 0 := by
  rw [num_congr (g := fun _ => 0) n a h]
  clear h
  induction n generalizing a with
  | zero => rfl
  | succ n ih => simp only [num]; rw [ih]; rfl
theorem num_keep {m m' : Nat → Int} {a n : Nat} (h : ∀ i, a ≤ i → i < a + n → m' i = m i) : num m' a n = num m a n := num_congr n a h
end Go.Proofs.Ytpodeclkgcgpgaa
