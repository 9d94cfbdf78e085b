import Derived.Test.YtpodeclkgcgpgaaF8
/- FrameMany: plain laws. -/
namespace Go.Proofs.Ytpodeclkgcgpgaa
set_option linter.unusedVariables false
open Go.RowKit
set_option maxRecDepth 100000

/-- owners and waits frame by frame, and each frame's first eight bytes -/
structure Pm (k : Nat) (F : Nat → Int × Int) (M : Nat → Int) (s : PSt) : Prop where
  pt : Pt k F s
  mem : ∀ j, j < k → num s.m (j * 4096) 8 = M j
section
variable {k : Nat} {F G : Nat → Int × Int} {M L : Nat → Int} {s : PSt}
theorem Pm.congr (h : Pm k F M s) (e : ∀ j, j < k → F j = G j) (e2 : ∀ j, j < k → M j = L j) : Pm k G L s :=
  ⟨h.pt.congr e, fun j hj => by rw [h.mem j hj, e2 j hj]⟩
theorem Pm.take (h : Pm k F M s) {i : Nat} (hi : i < k) (h0 : (F i).1 = 0) (hn : ∀ j, j < i → (F j).1 ≠ 0) {a : Int} (ha : 1 ≤ a ∧ a ≤ 8) :
    (takeP s.ow a).1 = (i : Int) ∧ (takeP s.ow a).2.1 = 0 ∧ Pm k (fun j => if j = i then (a, (F j).2) else F j) M ⟨(takeP s.ow a).2.2, s.bt, s.m, s.cnt⟩ := by
  obtain ⟨h1, h2⟩ := h.pt.take hi h0 hn ha
  exact ⟨by rw [h1], by rw [h1], h2, h.mem⟩
theorem Pm.write (h : Pm k F M s) {i : Nat} (hi : i < k) {v : Int} (hv : wfU v) : Pm k F (fun j => if j = i then v else M j) ⟨s.ow, s.bt, wrR 0 k s.m ((i * 4096 : Nat) : Int) 8 v, s.cnt⟩ := by
  refine ⟨⟨h.pt.lo, h.pt.lb, h.pt.at_⟩, fun j hj => ?_⟩
  show num (wrR 0 k s.m ((i * 4096 : Nat) : Int) 8 v) (j * 4096) 8 = _
  rw [wr_in (by omega)]
  by_cases e : j = i
  · subst e; rw [num_put, if_pos rfl]; have := hv.1; have := hv.2; omega
  · rw [num_put_far _ _ _ _ _ _ (by omega), if_neg e, h.mem j hj]
theorem Pm.rel (h : Pm k F M s) {i : Nat} (hi : i < k) {res : Int} (hr : res ≤ i) (h0 : (F i).1 ≠ 0) (h2 : (F i).1 ≠ -2) (hn : Nat) :
    relOk res s.ow i = true ∧ Pm k (fun j => if j = i then (-2, allB hn) else F j) M (relP res hn s i) := by
  obtain ⟨h1, h3, h4⟩ := h.pt.rel hi hr h0 h2 hn
  exact ⟨h1, h3, fun j hj => by rw [h4, h.mem j hj]⟩
theorem Pm.ackN (nb : Int) (h : Pm k F M s) : Pm k (fun j => ackF nb (F j)) (fun j => if freed nb (F j) = true then 0 else M j) (Go.Proofs.Ytpodeclkgcgpgaa.ackN nb s.z k).z ∧ (Go.Proofs.Ytpodeclkgcgpgaa.ackN nb s.z k).cnt = nfree nb F k := by
  obtain ⟨h1, h2, h3⟩ := Pt.ackN (s := s.z) nb (h.pt.of_m s.m 0) k (Nat.le_refl _)
  refine ⟨⟨⟨h1.lo, h1.lb, fun j hj => by have := h1.at_ j hj; simpa [hj] using this⟩, fun j hj => ?_⟩, by rw [h2]; simp⟩
  show num (Go.Proofs.Ytpodeclkgcgpgaa.ackN nb s.z k).m (j * 4096) 8 = _
  by_cases e : freed nb (F j) = true
  · rw [if_pos e]
    refine num_zero (fun i h4 h5 => ?_)
    have : i / 4096 = j := by omega
    rw [h3, if_pos (by rw [this]; exact ⟨hj, e⟩)]
  · rw [if_neg e, ← h.mem j hj]
    refine num_keep (fun i h4 h5 => ?_)
    have : i / 4096 = j := by omega
    rw [h3, if_neg (by rw [this]; exact fun h => e h.2)]
theorem Pm.count (h : Pm k F M s) (o : Int) : countP s.ow o = cntF F o k := h.pt.count o
end
theorem Bits.congr {h : Nat} {D E : Nat → Bool} {B : Nat} (hB : Bits h D B) (e : ∀ j, j ≤ h → D j = E j) : Bits h E B := by
  refine ⟨hB.1, fun j => ?_⟩
  rw [hB.2, e h (Nat.le_refl _)]
  by_cases hj : j < h
  · rw [e j (by omega)]
  · simp [hj]
/-- an owner's number, for frame j -/
def ownF (j : Nat) : Int := 1 + ((j % 8 : Nat) : Int)
theorem ownF_bd (j : Nat) : 1 ≤ ownF j ∧ ownF j ≤ 8 := by unfold ownF; omega
def FA (i : Nat) (j : Nat) : Int × Int := if j < i then (ownF j, 0) else (0, 0)
def FB (h i : Nat) (j : Nat) : Int × Int := if j < i then (-2, allB h) else (ownF j, 0)
def FC (c : Nat) (B : Int) (j : Nat) : Int × Int := if j < c then (-2, B) else (ownF j, 0)
def FD (c : Nat) (B : Int) (h i : Nat) (j : Nat) : Int × Int := if j < c then (-2, B) else if j < i then (-2, allB h) else (ownF j, 0)
def FE (c : Nat) (B : Int) (j : Nat) : Int × Int := if j < c then (0, 0) else (-2, B)
/-- the memory's marks -/
def MA (i : Nat) (v : Int) (j : Nat) : Int := if j < i then v else 0
def ME (c : Nat) (v : Int) (j : Nat) : Int := if j < c then 0 else v
theorem many_start (k : Nat) (mk : Int) : Pm k (FA 0) (MA 0 mk) ⟨initO k 0, List.replicate k 0, fun _ => 0, 0⟩ := by
  refine ⟨⟨initO_len (by omega), by simp, fun j hj => ?_⟩, fun j hj => ?_⟩
  · constructor
    · show (initO k 0)[j]? = _
      simp [initO, FA, List.getElem?_replicate, hj]
    · show (List.replicate k (0 : Int))[j]? = _
      simp [FA, List.getElem?_replicate, hj]
  · show num (fun _ => 0) _ _ = _
    rw [num_zero (fun _ _ _ => rfl)]; simp [MA]
theorem many_take {k i : Nat} {M : Nat → Int} {s : PSt} (h : Pm k (FA i) M s) (hi : i < k) :
    (takeP s.ow (ownF i)).1 = (i : Int) ∧ (takeP s.ow (ownF i)).2.1 = 0 ∧ Pm k (FA (i + 1)) M ⟨(takeP s.ow (ownF i)).2.2, s.bt, s.m, s.cnt⟩ := by
  obtain ⟨h1, h2, h3⟩ := h.take hi (by simp [FA]) (fun j hj => by have := ownF_bd j; simp only [FA, if_pos hj]; omega) (ownF_bd i)
  refine ⟨h1, h2, h3.congr (fun j hj => ?_) (fun _ _ => rfl)⟩
  unfold FA
  by_cases e : j = i
  · subst e; simp
  · by_cases e2 : j < i
    · rw [if_neg e, if_pos e2, if_pos (by omega)]
    · rw [if_neg e, if_neg e2, if_neg (by omega)]
theorem many_write {k i : Nat} {F : Nat → Int × Int} {v : Int} {s : PSt} (h : Pm k F (MA i v) s) (hi : i < k) (hv : wfU v) : Pm k F (MA (i + 1) v) ⟨s.ow, s.bt, wrR 0 k s.m ((i * 4096 : Nat) : Int) 8 v, s.cnt⟩ :=
  (h.write hi hv).congr (fun _ _ => rfl) (fun j hj => by
    unfold MA
    by_cases e : j = i
    · subst e; simp
    · by_cases e2 : j < i
      · rw [if_neg e, if_pos e2, if_pos (by omega)]
      · rw [if_neg e, if_neg e2, if_neg (by omega)])
theorem many_relB {k h i : Nat} {M : Nat → Int} {s : PSt} (hp : Pm k (FB h i) M s) (hi : i < k) : relOk 0 s.ow i = true ∧ Pm k (FB h (i + 1)) M (relP 0 h s i) := by
  have hb := ownF_bd i
  obtain ⟨h1, h2⟩ := hp.rel hi (res := 0) (by omega) (by simp only [FB, if_neg (Nat.lt_irrefl i)]; omega) (by simp only [FB, if_neg (Nat.lt_irrefl i)]; omega) h
  refine ⟨h1, h2.congr (fun j hj => ?_) (fun _ _ => rfl)⟩
  unfold FB
  by_cases e : j = i
  · subst e; simp
  · by_cases e2 : j < i
    · rw [if_neg e, if_pos e2, if_pos (by omega)]
    · rw [if_neg e, if_neg e2, if_neg (by omega)]
theorem many_relB2 {k h i : Nat} {M : Nat → Int} {s : PSt} (hp : Pm k (FB h (i + 1)) M s) (hi : i < k) : relOk 0 s.ow i = false ∧ relP 0 h s i = s :=
  hp.pt.relNot hi 0 (Or.inr (by simp [FB])) h
theorem ackF_own (nb : Int) (j : Nat) : ackF nb (ownF j, 0) = (ownF j, 0) := by
  have := ownF_bd j
  unfold ackF; rw [if_neg (by simp only []; omega)]
theorem freed_own (nb : Int) (j : Nat) (b : Int) : freed nb (ownF j, b) = false := by
  have := ownF_bd j
  simp [freed]; omega
theorem freed_none (nb b : Int) : freed nb (0, b) = false := by simp [freed]
theorem ackF_none (nb b : Int) : ackF nb (0, b) = (0, b) := by simp [ackF]
theorem ackF_on {nb b b' : Int} (h : bits .and .u64 b nb = b') (hb : b' ≠ 0) : ackF nb (-2, b) = (-2, b') ∧ freed nb (-2, b) = false := by
  simp [ackF, freed, h, hb]
theorem ackF_off {nb b : Int} (h : bits .and .u64 b nb = 0) : ackF nb (-2, b) = (0, 0) ∧ freed nb (-2, b) = true := by
  simp [ackF, freed, h]
theorem many_ackC {k c h i B : Nat} {M : Nat → Int} {s : PSt} (hp : Pm k (FC c (B : Int)) M s) (hB : Bits h (fun j => decide (j < i)) B) (h8 : h ≤ 8) (hi : i < h) :
    ∃ B' : Nat, Bits h (fun j => decide (j < i + 1)) B' ∧ Pm k (FC c (B' : Int)) M (ackP h k s.z (i : Int)).z ∧ (ackP h k s.z (i : Int)).cnt = 0 := by
  obtain ⟨B', hb, hB'⟩ := hB.ack h8 (k := i) (by omega)
  have hB2 : Bits h (fun j => decide (j < i + 1)) B' := hB'.congr (fun j hj => by
    by_cases e : j = i
    · subst e; simp
    · simp only [if_neg e]; exact decide_eq_decide.2 (by omega))
  have hne : ((B' : Nat) : Int) ≠ 0 := fun e => by
    have := (hB2.zero h8).1 (by omega) h (Nat.le_refl _)
    simp at this; omega
  rw [← ack_num h i hi h8] at hb
  obtain ⟨ha, hf⟩ := ackF_on hb hne
  rw [ackP_in hi]
  obtain ⟨h1, h2⟩ := hp.ackN (notB (2 ^ ((i : Nat) : Int).toNat))
  have hfr : ∀ j, freed (notB (2 ^ ((i : Nat) : Int).toNat)) (FC c (B : Int) j) = false := fun j => by
    unfold FC; split
    · exact hf
    · exact freed_own _ _ _
  refine ⟨B', hB2, h1.congr (fun j hj => ?_) (fun j hj => by rw [hfr]; rfl), by rw [h2, nfree_none (fun j _ => hfr j)]⟩
  unfold FC
  split
  · exact ha
  · exact ackF_own _ _
theorem many_relD {k c h i : Nat} {B : Int} {M : Nat → Int} {s : PSt} (hp : Pm k (FD c B h i) M s) (hi : i < k) (hc : c ≤ i) : relOk 0 s.ow i = true ∧ Pm k (FD c B h (i + 1)) M (relP 0 h s i) := by
  have hb := ownF_bd i
  obtain ⟨h1, h2⟩ := hp.rel hi (res := 0) (by omega) (by simp only [FD, if_neg (Nat.lt_irrefl i), if_neg (show ¬ i < c from by omega)]; omega) (by simp only [FD, if_neg (Nat.lt_irrefl i), if_neg (show ¬ i < c from by omega)]; omega) h
  refine ⟨h1, h2.congr (fun j hj => ?_) (fun _ _ => rfl)⟩
  unfold FD
  by_cases e : j = i
  · subst e; simp [show ¬ j < c from by omega]
  · by_cases e2 : j < i
    · rw [if_neg e, if_pos e2, if_pos (show j < i + 1 by omega)]
    · rw [if_neg e, if_neg e2, if_neg (show ¬ j < i + 1 by omega)]
/-- the devices: the first c become free -/
theorem many_dev {k c h B : Nat} {mk : Int} {s : PSt} (hp : Pm k (FD c (B : Int) h k) (MA k mk) s) (hB : Bits h (fun j => decide (j < h)) B) (h8 : h ≤ 8) (h1 : 1 ≤ h) (hc : c ≤ k) :
    ∃ B' : Nat, Bits h (fun j => decide (j = h)) B' ∧ Pm k (FE c (B' : Int)) (ME c mk) (ackN (notB 9223372036854775808) s.z k).z ∧ (ackN (notB 9223372036854775808) s.z k).cnt = c := by
  obtain ⟨Z, hz, hZ⟩ := hB.ack h8 (k := h) (Nat.le_refl _)
  have hZ0 : Z = 0 := (hZ.zero h8).2 (fun j hj => by
    by_cases e : j = h
    · rw [if_pos e]
    · rw [if_neg e]; simp; omega)
  obtain ⟨A, hA, hAt⟩ := Bits.all h8
  obtain ⟨B', hb, hB'⟩ := hAt.ack h8 (k := h) (Nat.le_refl _)
  have hB2 : Bits h (fun j => decide (j = h)) B' := hB'.congr (fun j hj => by
    by_cases e : j = h
    · simp [e]
    · simp [e])
  have hne : ((B' : Nat) : Int) ≠ 0 := fun e => by
    have := (hB2.zero h8).1 (by omega) 0 (by omega)
    simp at this; omega
  rw [← dev_num h] at hz hb
  rw [hZ0] at hz
  rw [← hA] at hb
  obtain ⟨ha1, hf1⟩ := ackF_off hz
  obtain ⟨ha2, hf2⟩ := ackF_on hb hne
  obtain ⟨g1, g2⟩ := hp.ackN (notB 9223372036854775808)
  have hfr : ∀ j, j < k → freed (notB 9223372036854775808) (FD c (B : Int) h k j) = decide (j < c) := fun j hj => by
    unfold FD
    by_cases e : j < c
    · rw [if_pos e, hf1]; simp [e]
    · rw [if_neg e, if_pos hj, hf2]; simp [e]
  refine ⟨B', hB2, g1.congr (fun j hj => ?_) (fun j hj => ?_), by rw [g2, nfree_low hfr]; omega⟩
  · unfold FD FE
    by_cases e : j < c
    · rw [if_pos e, if_pos e, ha1]
    · rw [if_neg e, if_neg e, if_pos hj, ha2]
  · rw [hfr j hj]
    unfold MA ME
    by_cases e : j < c
    · simp [e]
    · simp [e, hj]
theorem many_countE {k c : Nat} {B : Int} {M : Nat → Int} {s : PSt} (hp : Pm k (FE c B) M s) (hc : c ≤ k) : countP s.ow 0 = c ∧ countP s.ow (-2) = k - c := by
  constructor
  · rw [hp.count, cntF_low (c := c) (fun j hj => by unfold FE; by_cases e : j < c <;> simp [e])]; omega
  · rw [hp.count, cntF_high (c := c) (fun j hj => by
      unfold FE
      by_cases e : j < c
      · simp [e]
      · simp [e]; omega)]
/-- the last acknowledgements -/
theorem many_ackF {k c h i B : Nat} {mk : Int} {s : PSt} (hp : Pm k (FE c (B : Int)) (ME c mk) s) (hB : Bits h (fun j => decide (j < i ∨ j = h)) B) (h8 : h ≤ 8) (hi : i + 1 < h) :
    ∃ B' : Nat, Bits h (fun j => decide (j < i + 1 ∨ j = h)) B' ∧ Pm k (FE c (B' : Int)) (ME c mk) (ackP h k s.z (i : Int)).z ∧ (ackP h k s.z (i : Int)).cnt = 0 := by
  obtain ⟨B', hb, hB'⟩ := hB.ack h8 (k := i) (by omega)
  have hB2 : Bits h (fun j => decide (j < i + 1 ∨ j = h)) B' := hB'.congr (fun j hj => by
    by_cases e : j = i
    · subst e; simp
    · simp only [if_neg e]; exact decide_eq_decide.2 (by omega))
  have hne : ((B' : Nat) : Int) ≠ 0 := fun e => by
    have := (hB2.zero h8).1 (by omega) (i + 1) (by omega)
    simp at this; omega
  rw [← ack_num h i (by omega) h8] at hb
  obtain ⟨ha, hf⟩ := ackF_on hb hne
  rw [ackP_in (by omega)]
  obtain ⟨h1, h2⟩ := hp.ackN (notB (2 ^ ((i : Nat) : Int).toNat))
  have hfr : ∀ j, freed (notB (2 ^ ((i : Nat) : Int).toNat)) (FE c (B : Int) j) = false := fun j => by
    unfold FE; split
    · exact freed_none _ _
    · exact hf
  refine ⟨B', hB2, h1.congr (fun j hj => ?_) (fun j hj => by rw [hfr]; rfl), by rw [h2, nfree_none (fun j _ => hfr j)]⟩
  unfold FE
  split
  · exact ackF_none _ _
  · exact ha
theorem many_last {k c h i B : Nat} {mk : Int} {s : PSt} (hp : Pm k (FE c (B : Int)) (ME c mk) s) (hB : Bits h (fun j => decide (j < i ∨ j = h)) B) (h8 : h ≤ 8) (hi : i + 1 = h) (hc : c ≤ k) :
    Pm k (fun _ => (0, 0)) (fun _ => 0) (ackP h k s.z (i : Int)).z ∧ (ackP h k s.z (i : Int)).cnt = k - c := by
  obtain ⟨Z, hz, hZ⟩ := hB.ack h8 (k := i) (by omega)
  have hZ0 : Z = 0 := (hZ.zero h8).2 (fun j hj => by
    by_cases e : j = i
    · rw [if_pos e]
    · rw [if_neg e]; simp; omega)
  rw [← ack_num h i (by omega) h8, hZ0] at hz
  obtain ⟨ha, hf⟩ := ackF_off hz
  rw [ackP_in (by omega)]
  obtain ⟨h1, h2⟩ := hp.ackN (notB (2 ^ ((i : Nat) : Int).toNat))
  have hfr : ∀ j, freed (notB (2 ^ ((i : Nat) : Int).toNat)) (FE c (B : Int) j) = decide (c ≤ j) := fun j => by
    unfold FE
    by_cases e : j < c
    · rw [if_pos e, freed_none]; simp; omega
    · rw [if_neg e, hf]; simp; omega
  refine ⟨h1.congr (fun j hj => ?_) (fun j hj => ?_), by rw [h2, nfree_high (fun j _ => hfr j)]⟩
  · unfold FE
    by_cases e : j < c
    · rw [if_pos e, ackF_none]
    · rw [if_neg e, ha]
  · rw [hfr j]; unfold ME
    by_cases e : j < c
    · simp [e]
    · simp [e]
theorem many_all {k : Nat} {M : Nat → Int} {s : PSt} (hp : Pm k (fun _ => (0, 0)) M s) : countP s.ow 0 = k := by
  rw [hp.count, cntF_low (c := k) (fun j hj => by simp [hj])]; omega
end Go.Proofs.Ytpodeclkgcgpgaa
