import Derived.Test.YtpodeclkgcgpgaaF1
/- FrameReserved: what is reserved stays the monitor's. -/
namespace Go.Proofs.Ytpodeclkgcgpgaa
set_option linter.unusedVariables false
open Go.RowKit
set_option maxRecDepth 100000

/-- the first r frames are the monitor's, and wait for nothing -/
def Resv (r : Nat) (ow bt : List Int) : Prop := ∀ f, f < r → ow[f]? = some (-1) ∧ bt[f]? = some 0
theorem Resv.init {n r : Nat} (h : r ≤ n) : Resv r (initO n r) (List.replicate n 0) := by
  intro f hf
  refine ⟨?_, by rw [List.getElem?_replicate, if_pos (by omega)]⟩
  unfold initO
  rw [List.getElem?_append_left (by simpa using hf), List.getElem?_replicate, if_pos hf]
theorem Resv.set_ {r k : Nat} {ow bt : List Int} (h : Resv r ow bt) (hk : r ≤ k) (v u : Int) : Resv r (ow.set k v) (bt.set k u) := by
  intro f hf
  rw [List.getElem?_set_ne (by omega), List.getElem?_set_ne (by omega)]
  exact h f hf
theorem Resv.setO {r k : Nat} {ow bt : List Int} (h : Resv r ow bt) (hk : r ≤ k) (v : Int) : Resv r (ow.set k v) bt := by
  intro f hf
  rw [List.getElem?_set_ne (by omega)]
  exact h f hf
theorem Resv.free {r k : Nat} {ow bt : List Int} (h : Resv r ow bt) (hk : freeP ow = some k) : r ≤ k := by
  unfold freeP at hk
  rw [List.findIdx?_eq_some_iff_getElem] at hk
  obtain ⟨hl, he, _⟩ := hk
  rcases Nat.lt_or_ge k r with hlt | hge
  · have := (h k hlt).1
    rw [List.getElem?_eq_getElem hl] at this
    simp at this he
    omega
  · exact hge
theorem Resv.take {r : Nat} {ow bt : List Int} (h : Resv r ow bt) (o : Int) : Resv r (takeP ow o).2.2 bt ∧ ((takeP ow o).2.1 = 0 → (r : Int) ≤ (takeP ow o).1) := by
  unfold takeP
  split
  · cases hf : freeP ow with
    | none => exact ⟨h, fun e => by cases e⟩
    | some k => exact ⟨h.setO (h.free hf) o, fun _ => Int.ofNat_le.2 (h.free hf)⟩
  · exact ⟨h, fun e => by cases e⟩
theorem relOk_iff {res : Int} {ow : List Int} {f : Int} : relOk res ow f = true ↔ (0 ≤ f ∧ f < ow.length) ∧ res ≤ f ∧ ow.getD f.toNat 0 ≠ 0 ∧ ow.getD f.toNat 0 ≠ -2 := by
  unfold relOk; simp only [Bool.and_eq_true, thereP_iff, decide_eq_true_eq, bne_iff_ne]
theorem Resv.rel {r h : Nat} {s : PSt} (hs : Resv r s.ow s.bt) (f : Int) : Resv r (relP r h s f).ow (relP r h s f).bt := by
  unfold relP
  split
  · rename_i hok
    obtain ⟨_, hr, _⟩ := relOk_iff.1 hok
    exact hs.set_ (by omega) _ _
  · exact hs
theorem Resv.ack1 {r : Nat} {s : PSt} (h : Resv r s.ow s.bt) (nb : Int) (k : Nat) : Resv r (ack1 nb s k).ow (ack1 nb s k).bt := by
  unfold Go.Proofs.Ytpodeclkgcgpgaa.ack1
  split
  · rename_i he
    have hk : r ≤ k := by
      rcases Nat.lt_or_ge k r with hlt | hge
      · rw [List.getD_eq_getElem?_getD, (h k hlt).1] at he; cases he
      · exact hge
    split
    · exact h.set_ hk _ _
    · intro f hf
      refine ⟨(h f hf).1, ?_⟩
      rw [List.getElem?_set_ne (by omega)]
      exact (h f hf).2
  · exact h
theorem Resv.ackN {r : Nat} {s : PSt} (h : Resv r s.ow s.bt) (nb : Int) (n : Nat) : Resv r (ackN nb s n).ow (ackN nb s n).bt := by
  induction n with
  | zero => exact h
  | succ n ih => exact ih.ack1 nb n
theorem Resv.ack {r h n : Nat} {s : PSt} (hs : Resv r s.ow s.bt) (k : Int) : Resv r (ackP h n s k).ow (ackP h n s k).bt := by
  unfold ackP
  split
  · exact hs.ackN _ _
  · exact hs
theorem Resv.owner {r : Nat} {ow bt : List Int} (h : Resv r ow bt) {f : Nat} (hf : f < r) : ownerP ow f = -1 ∧ waitsP bt f = 0 := by
  obtain ⟨h1, h2⟩ := h f hf
  have l1 := (List.getElem?_eq_some_iff.1 h1).1
  have l2 := (List.getElem?_eq_some_iff.1 h2).1
  constructor
  · unfold ownerP; rw [if_pos (thereP_iff.2 (by omega))]; simp [h1]
  · unfold waitsP; rw [if_pos (thereP_iff.2 (by omega))]; simp [h2]
end Go.Proofs.Ytpodeclkgcgpgaa
