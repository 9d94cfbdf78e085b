import Derived.Test.YtonhlgfgbdiapaaGreatIoP
/- The ring of records, as a list. -/
namespace Go.Proofs.YtonhlgfgbdiapaaGreat
set_option linter.unusedVariables false
set_option linter.unusedSimpArgs false
open Go.RowKit

/-- the ring holds just the records L, the oldest first -/
structure QS (n : Nat) (s : Us) (m : Nat → Int) (L : List (Nat × Nat × Nat)) (ov : Bool) : Prop where
  ok : UsOk n s
  rd : s.rd = true
  len : s.un = L.length
  ovf : s.ov = ov
  has : ∀ i x, L[i]? = some x → num m (s.ring + (s.fi + i) % 256 * 16) 4 = (x.1 : Int) ∧ num m (s.ring + (s.fi + i) % 256 * 16 + 4) 4 = (x.2.1 : Int) ∧ num m (s.ring + (s.fi + i) % 256 * 16 + 8) 8 = (x.2.2 : Int)
def pushL (L : List (Nat × Nat × Nat)) (x : Nat × Nat × Nat) : List (Nat × Nat × Nat) := if L.length < 255 then L ++ [x] else L
def pushO (L : List (Nat × Nat × Nat)) (ov : Bool) : Bool := if L.length < 255 then ov else true
theorem recS_rt (s : Us) : (recS s).rt = s.rt := by unfold recS; split <;> rfl
theorem nextS_rt (s : Us) : (nextS s).rt = s.rt := by unfold nextS; split <;> rfl
theorem recS_mg (s : Us) : (recS s).mg = s.mg := by unfold recS; split <;> rfl
theorem QS.new {n : Nat} {s : Us} (m : Nat → Int) (h : UsOk n s) (a : Nat) (ha : a < 18446744073709551616) (h1 : a % 4096 = 0) (h2 : a + 4096 ≤ n * 4096) (ov : Bool) (ho : s.ov = ov) : QS n (usRg s a) m [] ov :=
  ⟨h.kRg a ha h1 h2, rfl, rfl, ho, fun i x hx => by simp at hx⟩
section
variable {n : Nat} {s : Us} {m : Nat → Int} {L : List (Nat × Nat × Nat)} {ov : Bool}
theorem QS.le (h : QS n s m L ov) : L.length ≤ 255 := by rw [← h.len]; exact h.ok.un
theorem QS.push1 (h : QS n s m L ov) (hl : L.length < 255) (d k a : Nat) (hd : d < 4294967296) (hk : k < 4294967296) (ha : a < 18446744073709551616) : QS n (recS s) (recM s m (d : Int) (k : Int) (a : Int)) (L ++ [(d, k, a)]) ov := by
  have hu := h.len
  have hok : recOk s = true := by unfold recOk; rw [h.rd, hu]; simp [hl]
  have e : recS s = { s with un := s.un + 1 } := by unfold recS; rw [hok]; rfl
  have em : recM s m (d : Int) (k : Int) (a : Int) = put (put (put m (recA s) 4 (d : Int)) (recA s + 4) 4 (k : Int)) (recA s + 8) 8 (a : Int) := by unfold recM; rw [hok]; rfl
  have ho := h.ok.kRec
  rw [e] at ho ⊢
  have hA : recA s = s.ring + (s.fi + L.length) % 256 * 16 := by unfold recA; rw [hu]
  rw [em, hA]
  refine ⟨ho, h.rd, by show s.un + 1 = _; rw [hu]; simp, h.ovf, fun i x hx => ?_⟩
  show num _ (s.ring + (s.fi + i) % 256 * 16) 4 = _ ∧ num _ (s.ring + (s.fi + i) % 256 * 16 + 4) 4 = _ ∧ num _ (s.ring + (s.fi + i) % 256 * 16 + 8) 8 = _
  rcases Nat.lt_trichotomy i L.length with hlt | heq | hgt
  · rw [List.getElem?_append_left hlt] at hx
    obtain ⟨h1, h2, h3⟩ := h.has i x hx
    have hne : (s.fi + i) % 256 ≠ (s.fi + L.length) % 256 := by omega
    refine ⟨?_, ?_, ?_⟩
    · rw [num_put_far _ _ _ _ _ _ (by omega), num_put_far _ _ _ _ _ _ (by omega), num_put_far _ _ _ _ _ _ (by omega)]; exact h1
    · rw [num_put_far _ _ _ _ _ _ (by omega), num_put_far _ _ _ _ _ _ (by omega), num_put_far _ _ _ _ _ _ (by omega)]; exact h2
    · rw [num_put_far _ _ _ _ _ _ (by omega), num_put_far _ _ _ _ _ _ (by omega), num_put_far _ _ _ _ _ _ (by omega)]; exact h3
  · subst heq
    rw [List.getElem?_append_right (Nat.le_refl _), Nat.sub_self] at hx
    obtain rfl : (d, k, a) = x := by simpa using hx
    refine ⟨?_, ?_, ?_⟩
    · rw [num_put_far _ _ _ _ _ _ (by omega), num_put_far _ _ _ _ _ _ (by omega), num_put, show (256 : Int) ^ 4 = 4294967296 from rfl]
      show (d : Int) % 4294967296 = (d : Int); omega
    · rw [num_put_far _ _ _ _ _ _ (by omega), num_put, show (256 : Int) ^ 4 = 4294967296 from rfl]
      show (k : Int) % 4294967296 = (k : Int); omega
    · rw [num_put, show (256 : Int) ^ 8 = 18446744073709551616 from rfl]
      show (a : Int) % 18446744073709551616 = (a : Int); omega
  · rw [List.getElem?_eq_none (by simp; omega)] at hx
    cases hx
theorem QS.full (h : QS n s m L ov) (hl : ¬ L.length < 255) (d k a : Int) : QS n (recS s) (recM s m d k a) L true := by
  have hu := h.len
  have hok : recOk s = false := by unfold recOk; rw [h.rd, hu]; simp; omega
  have e : recS s = { s with ov := true } := by unfold recS; rw [hok]; rfl
  have em : recM s m d k a = m := by unfold recM; rw [hok]; rfl
  have ho := h.ok.kRec
  rw [e] at ho ⊢
  rw [em]
  exact ⟨ho, h.rd, h.len, rfl, h.has⟩
theorem QS.push (h : QS n s m L ov) (d k a : Nat) (hd : d < 4294967296) (hk : k < 4294967296) (ha : a < 18446744073709551616) : QS n (recS s) (recM s m (d : Int) (k : Int) (a : Int)) (pushL L (d, k, a)) (pushO L ov) := by
  unfold pushL pushO
  by_cases hl : L.length < 255
  · rw [if_pos hl, if_pos hl]; exact h.push1 hl d k a hd hk ha
  · rw [if_neg hl, if_neg hl]; exact h.full hl _ _ _
theorem QS.pop {x : Nat × Nat × Nat} (h : QS n s m (x :: L) ov) : nextOk s = true ∧ num m (nextA s) 4 = (x.1 : Int) ∧ num m (nextA s + 4) 4 = (x.2.1 : Int) ∧ num m (nextA s + 8) 8 = (x.2.2 : Int) ∧ QS n (nextS s) m L ov := by
  have hu := h.len
  have hfi := h.ok.fi
  have hok : nextOk s = true := by unfold nextOk; rw [h.rd, hu]; simp
  have e : nextS s = { s with fi := (s.fi + 1) % 256, un := s.un - 1 } := by unfold nextS; rw [hok]; rfl
  have ho := h.ok.kNext
  have h0 := h.has 0 x rfl
  rw [show s.ring + (s.fi + 0) % 256 * 16 = nextA s from by unfold nextA; omega] at h0
  rw [e] at ho ⊢
  refine ⟨hok, h0.1, h0.2.1, h0.2.2, ho, h.rd, by show s.un - 1 = _; rw [hu]; simp, h.ovf, fun i y hy => ?_⟩
  have := h.has (i + 1) y hy
  rw [show s.ring + (s.fi + (i + 1)) % 256 * 16 = s.ring + ((s.fi + 1) % 256 + i) % 256 * 16 from by omega] at this
  exact this
theorem QS.none_ (h : QS n s m [] ov) : nextOk s = false := by
  unfold nextOk; rw [h.rd, h.len]; rfl
theorem QS.clear (h : QS n s m L ov) : QS n { s with ov := false } m L false :=
  ⟨⟨h.ok.root, h.ok.ring, h.ok.al, h.ok.fi, h.ok.un⟩, h.rd, h.len, rfl, h.has⟩
end
/-- the kind of an access of a device without a table -/
def kindN (sz : Int) (a : Nat) : Nat := if okS sz && a % sz.toNat == 0 then 1 else 4
end Go.Proofs.YtonhlgfgbdiapaaGreat
