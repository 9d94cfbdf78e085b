import Derived.Test.YtpodeclkgcgpgaaF2
/- Plain laws of a pool's owners: FrameCounts, FrameRound, FrameMany. -/
namespace Go.Proofs.Ytpodeclkgcgpgaa
set_option linter.unusedVariables false
open Go.RowKit
set_option maxRecDepth 100000

/-- owners are owners -/
def Rng (ow : List Int) : Prop := ∀ x ∈ ow, -2 ≤ x ∧ x ≤ 8
theorem Rng.set_ {ow : List Int} (h : Rng ow) (k : Nat) {v : Int} (hv : -2 ≤ v ∧ v ≤ 8) : Rng (ow.set k v) := fun x hx => by
  rcases List.mem_or_eq_of_mem_set hx with h' | rfl
  · exact h x h'
  · exact hv
theorem Rng.init (n r : Nat) : Rng (initO n r) := fun x hx => by
  unfold initO at hx
  rcases List.mem_append.1 hx with h | h
  · have := (List.mem_replicate.1 h).2; omega
  · have := (List.mem_replicate.1 h).2; omega
theorem Rng.take {ow : List Int} (h : Rng ow) (o : Int) : Rng (takeP ow o).2.2 := by
  unfold takeP
  split
  · rename_i ho
    have := okO_iff.1 ho
    split
    · exact h.set_ _ (by omega)
    · exact h
  · exact h
theorem Rng.rel {res : Int} {n : Nat} {s : PSt} (h : Rng s.ow) (f : Int) : Rng (relP res n s f).ow := by
  unfold relP; split
  · exact h.set_ _ (by omega)
  · exact h
theorem Rng.ack1 {s : PSt} (h : Rng s.ow) (nb : Int) (k : Nat) : Rng (Go.Proofs.Ytpodeclkgcgpgaa.ack1 nb s k).ow := by
  unfold Go.Proofs.Ytpodeclkgcgpgaa.ack1; split
  · split
    · exact h.set_ _ (by omega)
    · exact h
  · exact h
theorem Rng.ackN {s : PSt} (h : Rng s.ow) (nb : Int) (n : Nat) : Rng (Go.Proofs.Ytpodeclkgcgpgaa.ackN nb s n).ow := by
  induction n with
  | zero => exact h
  | succ n ih => exact ih.ack1 nb n
theorem Rng.ack {hn n : Nat} {s : PSt} (h : Rng s.ow) (k : Int) : Rng (ackP hn n s k).ow := by
  unfold ackP; split
  · exact h.ackN _ _
  · exact h
/-- how many owners lie below o -/
def below (ow : List Int) (o : Int) : Nat := (ow.filter (fun x => decide (x < o))).length
theorem below_step (ow : List Int) (o : Int) : below ow (o + 1) = below ow o + countP ow o := by
  unfold below countP
  induction ow with
  | nil => rfl
  | cons x l ih =>
    simp only [List.filter_cons, decide_eq_true_eq, beq_iff_eq]
    repeat' split
    all_goals (try simp only [List.length_cons])
    all_goals omega
theorem below_none {ow : List Int} (h : Rng ow) : below ow (-2) = 0 := by
  unfold below
  rw [List.length_eq_zero_iff, List.filter_eq_nil_iff]
  intro x hx; have := h x hx; simp; omega
theorem below_all {ow : List Int} (h : Rng ow) : below ow 9 = ow.length := by
  unfold below
  rw [List.filter_eq_self.2]
  intro x hx; have := h x hx; simp; omega
theorem below_le (ow : List Int) (o : Int) : below ow o ≤ ow.length := List.length_filter_le ..
theorem countP_le (ow : List Int) (o : Int) : countP ow o ≤ ow.length := List.length_filter_le ..
/-- the lowest free frame from j on -/
def WasP (ow : List Int) (j : Nat) (was : Int) : Prop := (was = -1 ∧ ∀ i, j ≤ i → ow[i]? ≠ some 0) ∨ ∃ q : Nat, was = q ∧ j ≤ q ∧ ow[q]? = some 0 ∧ ∀ i, j ≤ i → i < q → ow[i]? ≠ some 0
theorem WasP.init (ow : List Int) : WasP ow ow.length (-1) := Or.inl ⟨rfl, fun i hi => by rw [List.getElem?_eq_none hi]; simp⟩
theorem WasP.free_ {ow : List Int} {j : Nat} (h0 : ow[j]? = some 0) : WasP ow j j := Or.inr ⟨j, rfl, Nat.le_refl _, h0, fun i h1 h2 => by omega⟩
theorem WasP.not_ {ow : List Int} {j : Nat} {was : Int} (h : WasP ow (j + 1) was) (h0 : ow[j]? ≠ some 0) : WasP ow j was := by
  rcases h with ⟨rfl, h⟩ | ⟨q, rfl, h1, h2, h3⟩
  · refine Or.inl ⟨rfl, fun i hi => ?_⟩
    by_cases e : i = j
    · subst e; exact h0
    · exact h i (by omega)
  · refine Or.inr ⟨q, rfl, by omega, h2, fun i hi hq => ?_⟩
    by_cases e : i = j
    · subst e; exact h0
    · exact h3 i (by omega) hq
theorem freeP_some {ow : List Int} {q : Nat} (h : ow[q]? = some 0) (h2 : ∀ i, i < q → ow[i]? ≠ some 0) : freeP ow = some q := by
  unfold freeP
  rw [List.findIdx?_eq_some_iff_getElem]
  obtain ⟨hl, he⟩ := List.getElem?_eq_some_iff.1 h
  refine ⟨hl, by simp [he], fun j hj => ?_⟩
  have := h2 j hj
  rw [List.getElem?_eq_getElem (by omega)] at this
  simpa using this
theorem freeP_none {ow : List Int} (h : ∀ i : Nat, ow[i]? ≠ some 0) : freeP ow = none := by
  unfold freeP
  rw [List.findIdx?_eq_none_iff]
  intro x hx
  obtain ⟨j, hj, rfl⟩ := List.getElem_of_mem hx
  have := h j
  rw [List.getElem?_eq_getElem hj] at this
  simpa using this
theorem WasP.free {ow : List Int} {was : Int} (h : WasP ow 0 was) : (freeP ow = none ∧ was = -1) ∨ ∃ q : Nat, freeP ow = some q ∧ was = q ∧ q < ow.length := by
  rcases h with ⟨rfl, h⟩ | ⟨q, rfl, h1, h2, h3⟩
  · exact Or.inl ⟨freeP_none (fun i => h i (Nat.zero_le _)), rfl⟩
  · exact Or.inr ⟨q, freeP_some h2 (fun i hi => h3 i (Nat.zero_le _) hi), rfl, (List.getElem?_eq_some_iff.1 h2).1⟩

/-- one acknowledgement of one frame: owner and waits -/
def ackF (nb : Int) (x : Int × Int) : Int × Int := if x.1 = -2 then if bits .and .u64 x.2 nb = 0 then (0, 0) else (-2, bits .and .u64 x.2 nb) else x
def freed (nb : Int) (x : Int × Int) : Bool := decide (x.1 = -2 ∧ bits .and .u64 x.2 nb = 0)
/-- a state, frame by frame -/
structure Pt (k : Nat) (F : Nat → Int × Int) (s : PSt) : Prop where
  lo : s.ow.length = k
  lb : s.bt.length = k
  at_ : ∀ j, j < k → s.ow[j]? = some (F j).1 ∧ s.bt[j]? = some (F j).2
theorem Pt.congr {k : Nat} {F G : Nat → Int × Int} {s : PSt} (h : Pt k F s) (e : ∀ j, j < k → F j = G j) : Pt k G s := ⟨h.lo, h.lb, fun j hj => by rw [← e j hj]; exact h.at_ j hj⟩
theorem Pt.of_m {k : Nat} {F : Nat → Int × Int} {s : PSt} (h : Pt k F s) (m : Nat → Int) (c : Nat) : Pt k F ⟨s.ow, s.bt, m, c⟩ := ⟨h.lo, h.lb, h.at_⟩
theorem Pt.set_ {k : Nat} {F : Nat → Int × Int} {s : PSt} (h : Pt k F s) (i : Nat) (a b : Int) (m : Nat → Int) (c : Nat) : Pt k (fun j => if j = i then (a, b) else F j) ⟨s.ow.set i a, s.bt.set i b, m, c⟩ := by
  refine ⟨by simpa using h.lo, by simpa using h.lb, fun j hj => ?_⟩
  have := h.at_ j hj
  have h1 := h.lo
  have h2 := h.lb
  by_cases e : j = i
  · subst e
    simp only [if_pos]
    rw [List.getElem?_set_self (by omega), List.getElem?_set_self (by omega)]; exact ⟨rfl, rfl⟩
  · simp only [if_neg e]
    rw [List.getElem?_set_ne (Ne.symm e), List.getElem?_set_ne (Ne.symm e)]; exact this
theorem Pt.setB {k : Nat} {F : Nat → Int × Int} {s : PSt} (h : Pt k F s) (i : Nat) (b : Int) (m : Nat → Int) (c : Nat) : Pt k (fun j => if j = i then ((F j).1, b) else F j) ⟨s.ow, s.bt.set i b, m, c⟩ := by
  refine ⟨h.lo, by simpa using h.lb, fun j hj => ?_⟩
  have := h.at_ j hj
  have h2 := h.lb
  by_cases e : j = i
  · subst e
    simp only [if_pos]
    rw [List.getElem?_set_self (by omega)]; exact ⟨this.1, rfl⟩
  · simp only [if_neg e]
    rw [List.getElem?_set_ne (Ne.symm e)]; exact this
theorem Pt.ack1 {k : Nat} {F : Nat → Int × Int} {s : PSt} (nb : Int) (h : Pt k F s) {i : Nat} (hi : i < k) :
    Pt k (fun j => if j = i then ackF nb (F j) else F j) (Go.Proofs.Ytpodeclkgcgpgaa.ack1 nb s i) ∧ (Go.Proofs.Ytpodeclkgcgpgaa.ack1 nb s i).cnt = s.cnt + (if freed nb (F i) then 1 else 0) ∧ (Go.Proofs.Ytpodeclkgcgpgaa.ack1 nb s i).m = if freed nb (F i) then clrF s.m i else s.m := by
  obtain ⟨h1, h2⟩ := h.at_ i hi
  unfold Go.Proofs.Ytpodeclkgcgpgaa.ack1
  simp only [List.getD_eq_getElem?_getD, h1, h2, Option.getD_some]
  by_cases e1 : (F i).1 = -2
  · by_cases e2 : bits .and .u64 (F i).2 nb = 0
    · have hf : freed nb (F i) = true := by simp [freed, e1, e2]
      have ha : ackF nb (F i) = (0, 0) := by simp [ackF, e1, e2]
      rw [if_pos e1, if_pos e2, if_pos hf, if_pos hf]
      exact ⟨(h.set_ i 0 0 _ _).congr (fun j hj => by
        by_cases e : j = i
        · subst e; simp [ha]
        · simp [e]), rfl, rfl⟩
    · have hf : ¬ freed nb (F i) = true := by simp [freed, e1, e2]
      have ha : ackF nb (F i) = ((F i).1, bits .and .u64 (F i).2 nb) := by simp [ackF, e1, e2]
      rw [if_pos e1, if_neg e2, if_neg hf, if_neg hf]
      exact ⟨(h.setB i _ _ _).congr (fun j hj => by
        by_cases e : j = i
        · subst e; simp [ha]
        · simp [e]), rfl, rfl⟩
  · have hf : ¬ freed nb (F i) = true := by simp [freed, e1]
    have ha : ackF nb (F i) = F i := by simp [ackF, e1]
    rw [if_neg e1, if_neg hf, if_neg hf]
    exact ⟨h.congr (fun j hj => by
        by_cases e : j = i
        · subst e; simp [ha]
        · simp [e]), rfl, rfl⟩
/-- how many become free -/
def nfree (nb : Int) (F : Nat → Int × Int) : Nat → Nat
  | 0 => 0
  | i + 1 => nfree nb F i + if freed nb (F i) then 1 else 0
theorem nfree_congr {nb : Int} {F G : Nat → Int × Int} {i : Nat} (h : ∀ j, j < i → freed nb (F j) = freed nb (G j)) : nfree nb F i = nfree nb G i := by
  induction i with
  | zero => rfl
  | succ i ih => simp only [nfree]; rw [ih (fun j hj => h j (by omega)), h i (by omega)]
theorem Pt.ackN {k : Nat} {F : Nat → Int × Int} {s : PSt} (nb : Int) (h : Pt k F s) : ∀ i, i ≤ k →
    Pt k (fun j => if j < i then ackF nb (F j) else F j) (Go.Proofs.Ytpodeclkgcgpgaa.ackN nb s i) ∧ (Go.Proofs.Ytpodeclkgcgpgaa.ackN nb s i).cnt = s.cnt + nfree nb F i ∧ ∀ a, (Go.Proofs.Ytpodeclkgcgpgaa.ackN nb s i).m a = if a / 4096 < i ∧ freed nb (F (a / 4096)) = true then 0 else s.m a := by
  intro i
  induction i with
  | zero => intro _; exact ⟨h.congr (fun j hj => by simp), rfl, fun a => by rw [if_neg (by omega)]; rfl⟩
  | succ i ih =>
    intro hi
    obtain ⟨h1, h2, h3⟩ := ih (by omega)
    obtain ⟨g1, g2, g3⟩ := h1.ack1 nb (i := i) (by omega)
    simp only [if_neg (Nat.lt_irrefl i)] at g2 g3
    refine ⟨g1.congr (fun j hj => ?_), ?_, fun a => ?_⟩
    · by_cases e : j = i
      · subst e; simp
      · by_cases e2 : j < i
        · simp [e, e2, show j < i + 1 from by omega]
        · simp [e, e2, show ¬ j < i + 1 from by omega]
    · show (Go.Proofs.Ytpodeclkgcgpgaa.ack1 nb _ i).cnt = _
      rw [g2, h2]; simp only [nfree]; omega
    · show (Go.Proofs.Ytpodeclkgcgpgaa.ack1 nb _ i).m a = _
      rw [g3]
      by_cases ef : freed nb (F i) = true
      · rw [if_pos ef]
        unfold clrF
        by_cases e : a / 4096 = i
        · rw [if_pos e, if_pos ⟨by omega, by rw [e]; exact ef⟩]
        · rw [if_neg e, h3]
          by_cases e2 : a / 4096 < i ∧ freed nb (F (a / 4096)) = true
          · rw [if_pos e2, if_pos ⟨by omega, e2.2⟩]
          · rw [if_neg e2, if_neg (fun h => e2 ⟨by omega, h.2⟩)]
      · rw [if_neg ef, h3]
        by_cases e2 : a / 4096 < i ∧ freed nb (F (a / 4096)) = true
        · rw [if_pos e2, if_pos ⟨by omega, e2.2⟩]
        · rw [if_neg e2, if_neg (fun h => by
            by_cases e : a / 4096 = i
            · rw [e] at h; exact ef h.2
            · exact e2 ⟨by omega, h.2⟩)]
def cntF (F : Nat → Int × Int) (o : Int) : Nat → Nat
  | 0 => 0
  | i + 1 => cntF F o i + if (F i).1 = o then 1 else 0
theorem Pt.count {k : Nat} {F : Nat → Int × Int} {s : PSt} (h : Pt k F s) (o : Int) : countP s.ow o = cntF F o k := by
  have : ∀ i, i ≤ k → countP (s.ow.take i) o = cntF F o i := by
    intro i
    induction i with
    | zero => intro _; simp [countP, cntF]
    | succ i ih =>
      intro hi
      rw [countP_take s.ow o (h.at_ i (by omega)).1, ih (by omega)]; rfl
  rw [← this k (Nat.le_refl _), List.take_of_length_le (by rw [h.lo]; omega)]
theorem Pt.owner {k : Nat} {F : Nat → Int × Int} {s : PSt} (h : Pt k F s) {j : Nat} (hj : j < k) : ownerP s.ow j = (F j).1 := by
  have := (h.at_ j hj).1
  have hl := h.lo
  unfold ownerP
  rw [if_pos (thereP_iff.2 (by omega))]
  simp [this]
theorem Pt.isOk {k : Nat} {F : Nat → Int × Int} {s : PSt} (h : Pt k F s) {j : Nat} (hj : j < k) (res : Int) : relOk res s.ow j = (decide (res ≤ j) && ((F j).1 != 0 && (F j).1 != -2)) := by
  have := (h.at_ j hj).1
  have hl := h.lo
  unfold Go.Proofs.Ytpodeclkgcgpgaa.relOk
  rw [thereP_iff.2 (by omega)]
  simp [this]

/-- bits: what is still waited for (harts below h, the devices at 63), D: who has acknowledged -/
def Bits (h : Nat) (D : Nat → Bool) (B : Nat) : Prop := B < 18446744073709551616 ∧ ∀ j, B.testBit j = ((decide (j < h) && !D j) || (decide (j = 63) && !D h))
theorem notB_pow {k : Nat} (hk : k < 64) : notB ((2 ^ k : Nat) : Int) = ((18446744073709551615 ^^^ 2 ^ k : Nat) : Int) := by
  unfold notB
  have h2 : (2 : Nat) ^ k < 18446744073709551616 := by
    have := Nat.pow_lt_pow_right (a := 2) (by decide) hk
    simpa using this
  have : (IntKind.u64.max : Int) = ((18446744073709551615 : Nat) : Int) := by decide
  rw [this, u64_xor_nat _ _ (by decide) h2]
theorem Bits.ack {h k : Nat} {D : Nat → Bool} {B : Nat} (hB : Bits h D B) (h8 : h ≤ 8) (hk : k ≤ h) : ∃ B', bits .and .u64 (B : Int) (notB ((2 ^ (if k = h then 63 else k) : Nat) : Int)) = ((B' : Nat) : Int) ∧ Bits h (fun j => if j = k then true else D j) B' := by
  have hq : (if k = h then 63 else k) < 64 := by split <;> omega
  obtain ⟨hl, hb⟩ := hB
  rw [notB_pow hq]
  have h2 : (2 : Nat) ^ (if k = h then 63 else k) < 2 ^ 64 := Nat.pow_lt_pow_right (by decide) hq
  have hx : (18446744073709551615 ^^^ 2 ^ (if k = h then 63 else k)) < 2 ^ 64 := Nat.xor_lt_two_pow (by decide) h2
  refine ⟨B &&& (18446744073709551615 ^^^ 2 ^ (if k = h then 63 else k)), ?_, Nat.lt_of_le_of_lt Nat.and_le_left hl, fun j => ?_⟩
  · rw [u64_and_nat _ _ hl (by simpa using hx)]
  · rw [Nat.testBit_and, hb, Nat.testBit_xor, show (18446744073709551615 : Nat) = 2 ^ 64 - 1 from rfl, Nat.testBit_two_pow_sub_one, Nat.testBit_two_pow]
    by_cases e : k = h
    · subst e
      simp only [if_pos]
      by_cases e1 : j < k
      · have : j ≠ 63 := by omega
        have : ¬ 63 = j := by omega
        have : j ≠ k := by omega
        have : j < 64 := by omega
        simp [*]
      · by_cases e2 : j = 63
        · subst e2; simp [e1]
        · simp [e1, e2]
    · simp only [if_neg e]
      by_cases e1 : j < h
      · have : j ≠ 63 := by omega
        have : j < 64 := by omega
        by_cases e3 : j = k
        · subst e3; simp [*]
        · have : ¬ k = j := fun h => e3 h.symm
          simp [*]
      · by_cases e2 : j = 63
        · subst e2
          have : ¬ k = 63 := by omega
          have : ¬ h = k := fun h => e h.symm
          simp [*]
        · simp [e1, e2]
theorem Bits.zero {h : Nat} {D : Nat → Bool} {B : Nat} (hB : Bits h D B) (h8 : h ≤ 8) : B = 0 ↔ ∀ j, j ≤ h → D j = true := by
  obtain ⟨hl, hb⟩ := hB
  constructor
  · rintro rfl j hj
    by_cases e : j = h
    · subst e
      have := hb 63
      simp only [Nat.zero_testBit, show ¬ 63 < j from by omega] at this
      simpa using this
    · have := hb j
      simp only [Nat.zero_testBit, show j < h from by omega, show ¬ j = 63 from by omega] at this
      simpa using this
  · intro hD
    refine Nat.eq_of_testBit_eq (fun j => ?_)
    rw [hb, Nat.zero_testBit, hD h (Nat.le_refl _)]
    by_cases e1 : j < h
    · simp [hD j (by omega)]
    · simp [e1]
theorem Bits.all {h : Nat} (h8 : h ≤ 8) : ∃ B : Nat, allB h = (B : Int) ∧ Bits h (fun _ => false) B := by
  have h1 : (2 : Nat) ^ h ≤ 256 := Nat.le_trans (Nat.pow_le_pow_right (by decide) h8) (by decide)
  have h0 := Nat.pow_pos (n := h) (show 0 < 2 from by decide)
  have e : ((2 : Int) ^ h - 1) = ((2 ^ h - 1 : Nat) : Int) := by
    rw [Int.ofNat_sub (by omega)]; simp
  refine ⟨9223372036854775808 ||| (2 ^ h - 1), ?_, ?_, fun j => ?_⟩
  · unfold allB
    rw [e, show (9223372036854775808 : Int) = ((9223372036854775808 : Nat) : Int) from rfl, u64_or_nat _ _ (by decide) (by omega)]
  · have := Nat.or_lt_two_pow (n := 64) (x := 9223372036854775808) (y := 2 ^ h - 1) (by decide) (by omega)
    simpa using this
  · rw [Nat.testBit_or, show (9223372036854775808 : Nat) = 2 ^ 63 from rfl, Nat.testBit_two_pow, Nat.testBit_two_pow_sub_one]
    by_cases e1 : j = 63
    · subst e1; simp
    · simp [e1, show ¬ 63 = j from fun h => e1 h.symm]
end Go.Proofs.Ytpodeclkgcgpgaa
