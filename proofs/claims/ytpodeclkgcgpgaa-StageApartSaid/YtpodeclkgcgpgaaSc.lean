import Derived.Test.YtpodeclkgcgpgaaSb
import Derived.Test.YtpodeclkgcgpgaaSh
/- StageApart's facts. -/
namespace Go.Proofs.Ytpodeclkgcgpgaa
set_option linter.unusedVariables false
set_option linter.unusedSimpArgs false
open Go.RowKit
set_option maxRecDepth 100000

theorem en_set (m : Nat → Int) (t i : Nat) (e : Nat) (he : e < 18446744073709551616) : en (enS m t i (e : Int)) t i = e := by
  show (num (put m (t * 4096 + 8 * i) 8 (e : Int)) (t * 4096 + 8 * i) 8).toNat = e
  rw [num_put, show (256 : Int) ^ 8 = 18446744073709551616 from rfl]; omega
theorem en_set_far (m : Nat → Int) (t i t' i' : Nat) (e : Int) (hi : i < 512) (hi' : i' < 512) (h : t ≠ t' ∨ i ≠ i') : en (enS m t i e) t' i' = en m t' i' := by
  show (num (put m (t * 4096 + 8 * i) 8 e) (t' * 4096 + 8 * i') 8).toNat = (num m (t' * 4096 + 8 * i') 8).toNat
  rw [num_put_far _ _ _ _ _ _ (by omega)]
theorem en_clr (m : Nat → Int) (f i : Nat) (hi : i < 512) : en (clrF m f) f i = 0 := by
  show (num (clrF m f) (f * 4096 + 8 * i) 8).toNat = 0
  rw [num_zero (fun y h1 h2 => by unfold clrF; rw [if_pos (by omega)])]; rfl
theorem en_clr_far (m : Nat → Int) (f t i : Nat) (hi : i < 512) (h : t ≠ f) : en (clrF m f) t i = en m t i := en_keep (D := fun z => z = f) (fun x hx => by unfold clrF; rw [if_neg hx]) h hi
theorem enS_far (m : Nat → Int) (t i : Nat) (e : Int) (hi : i < 512) (x : Nat) (hx : x / 4096 ≠ t) : enS m t i e x = m x := by
  show put m (t * 4096 + 8 * i) 8 e x = m x
  unfold put; rw [if_neg (by omega)]
/-- a guest's pages 524288 .. 524291: its tables t0, f1, f0; P k the frame of page k, 0: none -/
structure Spc (m : Nat → Int) (t0 f1 f0 : Nat) (P : Nat → Nat) : Prop where
  e1 : en m t0 2 = f1 * 1024 + 1
  e0 : en m f1 0 = f0 * 1024 + 1
  lf : ∀ k, k < 4 → en m f0 k = if P k = 0 then 0 else P k * 1024 + 215
section
variable {m m' : Nat → Int} {t0 f1 f0 k : Nat} {P : Nat → Nat}
theorem pgk (hk : k < 4) : (524288 + k) / 262144 = 2 ∧ (524288 + k) / 512 % 512 = 0 ∧ (524288 + k) % 512 = k := by omega
theorem Spc.lv (h : Spc m t0 f1 f0 P) (hk : k < 4) : lv1 m t0 (524288 + k) = f1 * 1024 + 1 ∧ lv0 m t0 (524288 + k) = f0 * 1024 + 1 := by
  obtain ⟨a, b, _⟩ := pgk hk
  have h1 : lv1 m t0 (524288 + k) = f1 * 1024 + 1 := by unfold lv1; rw [a]; exact h.e1
  refine ⟨h1, ?_⟩
  unfold lv0; rw [h1, b, show (f1 * 1024 + 1) / 1024 = f1 from by omega]; exact h.e0
theorem Spc.dn (h : Spc m t0 f1 f0 P) (hk : k < 4) : dnP m t0 (524288 + k) = (f0, 0) := by
  obtain ⟨a, b⟩ := h.lv hk
  unfold dnP; rw [a, b, if_neg (by omega), if_neg (by omega), show (f0 * 1024 + 1) / 1024 = f0 from by omega]
theorem Spc.dnOk (h : Spc m t0 f1 f0 P) (hk : k < 4) (h0 : t0 < 16) (h1 : f1 < 16) (h2 : f0 < 16) : DnOk 16 m t0 (524288 + k) := by
  obtain ⟨a, b⟩ := h.lv hk
  exact ⟨h0, fun _ => by rw [a]; omega, fun _ _ => by rw [b]; omega⟩
theorem Spc.fnd (h : Spc m t0 f1 f0 P) (hk : k < 4) (hP : P k ≠ 0) : fndP m t0 (524288 + k) = (((524288 + k : Nat) : Int), ((P k : Nat) : Int), 6, true) := by
  have hl := h.lf k hk
  rw [if_neg hP] at hl
  unfold fndP
  rw [h.dn hk, (pgk hk).2.2]
  show (if (0 : Nat) = 0 ∧ en m f0 k ≠ 0 then _ else _) = _
  rw [hl, if_pos ⟨rfl, by omega⟩]
  have e1 : (P k * 1024 + 215) / 1024 = P k := by omega
  have e2 : (P k * 1024 + 215) &&& 14 = 6 := by
    rw [← nat_join 10 (P k * 1024) 215 (by omega) (by decide), Nat.and_or_distrib_right]
    have : P k * 1024 &&& 14 = 0 := by
      apply Nat.eq_of_testBit_eq
      intro i
      rw [Nat.testBit_and, Nat.zero_testBit, show (1024 : Nat) = 2 ^ 10 from rfl, Nat.testBit_mul_two_pow]
      rcases Nat.lt_or_ge i 4 with h | h
      · simp; omega
      · have : Nat.testBit 14 i = false := Nat.testBit_lt_two_pow (Nat.lt_of_lt_of_le (show 14 < 2 ^ 4 by decide) (Nat.pow_le_pow_right (by decide) h))
        rw [this, Bool.and_false]
    rw [this]; rfl
  show (((524288 + k : Nat) : Int), (((P k * 1024 + 215) / 1024 : Nat) : Int), ((((P k * 1024 + 215) &&& 14) : Nat) : Int), true) = _
  rw [e1, e2]; rfl
theorem Spc.pg (h : Spc m t0 f1 f0 P) (hk : k < 4) (hP : P k ≠ 0) (hl : P k < 16) (h0 : t0 < 16) (h1 : f1 < 16) (h2 : f0 < 16) : PgOk 16 m t0 (524288 + k) (P k) 6 :=
  ⟨by omega, h.dnOk hk h0 h1 h2, h.fnd hk hP, hl⟩
theorem Spc.tab (h : Spc m t0 f1 f0 P) (hk : k < 4) (hP : P k ≠ 0) (hl : P k < 16) (h0 : t0 < 16) (h1 : f1 < 16) (h2 : f0 < 16) : TabOk 16 m t0 (524288 + k) f1 f0 (P k) 6 := by
  have hx := h.lf k hk
  rw [if_neg hP] at hx
  exact ⟨by omega, h0, (h.lv hk).1, h1, (h.lv hk).2, h2, by rw [(pgk hk).2.2, hx]; show P k * 1024 + 215 = P k * 1024 + 209 + 6; omega, Or.inr (Or.inl rfl), hl⟩
theorem Spc.nf (h : Spc m t0 f1 f0 P) (hk : k < 4) (hP : P k = 0) : (fndP m t0 (524288 + k)).2.2.2 = false := by
  have hl := h.lf k hk
  rw [if_pos hP] at hl
  unfold fndP
  rw [h.dn hk, (pgk hk).2.2]
  show (if (0 : Nat) = 0 ∧ en m f0 k ≠ 0 then _ else _ : Int × Int × Int × Bool).2.2.2 = _
  rw [if_neg (by rw [hl]; exact fun h => h.2 rfl)]
theorem Spc.no (h : Spc m t0 f1 f0 P) (hk : k < 4) (hP : P k = 0) (h1 : f1 < 16) (h2 : f0 < 16) : NoPg 16 m t0 (524288 + k) :=
  .b f1 f0 (h.lv hk).1 h1 (h.lv hk).2 h2 (by rw [(pgk hk).2.2, h.lf k hk, if_pos hP])
theorem Spc.keep {D : Nat → Prop} (h : Spc m t0 f1 f0 P) (hm : ∀ x, ¬ D (x / 4096) → m' x = m x) (h0 : ¬ D t0) (h1 : ¬ D f1) (h2 : ¬ D f0) : Spc m' t0 f1 f0 P :=
  ⟨(en_keep hm h0 (by omega)).trans h.e1, (en_keep hm h1 (by omega)).trans h.e0, fun k hk => (en_keep hm h2 (by omega)).trans (h.lf k hk)⟩
def updP (P : Nat → Nat) (k fr : Nat) : Nat → Nat := fun j => if j = k then fr else P j
theorem Spc.set {fr : Nat} (h : Spc m t0 f1 f0 P) (hk : k < 4) (hfr : fr ≠ 0) (hfl : fr < 16) (h02 : t0 ≠ f0) (h12 : f1 ≠ f0) : Spc (enS m f0 k ((fr * 1024 + 215 : Nat) : Int)) t0 f1 f0 (updP P k fr) := by
  refine ⟨?_, ?_, fun j hj => ?_⟩
  · rw [en_set_far _ _ _ _ _ _ (by omega) (by omega) (Or.inl (Ne.symm h02))]; exact h.e1
  · rw [en_set_far _ _ _ _ _ _ (by omega) (by omega) (Or.inl (Ne.symm h12))]; exact h.e0
  · unfold updP
    by_cases e : j = k
    · subst e
      rw [en_set _ _ _ _ (by omega), if_pos rfl, if_neg hfr]
    · rw [en_set_far _ _ _ _ _ _ (by omega) (by omega) (Or.inr (Ne.symm e)), if_neg e]; exact h.lf j hj
/-- one more page in tables that are there -/
theorem map_more {s : PSt} {ts : List Int} {fr : Nat} (h : Spc s.m t0 f1 f0 P) (hk : k < 4) (hP : P k = 0) (hfr : fr ≠ 0) (hfl : fr < 16) (h0 : t0 < 16) (h1 : f1 < 16) (h2 : f0 < 16) (h02 : t0 ≠ f0) (h12 : f1 ≠ f0) :
    BlOk 16 s ts t0 (524288 + k) ∧ (fndP s.m t0 (524288 + k)).2.2.2 = false ∧ (dnP s.m t0 (524288 + k)).2 = 0 ∧ bldP s ts t0 (524288 + k) = (f0, s, ts) ∧
    mapS s ts t0 (524288 + k) fr 6 = ⟨s.ow, s.bt, enS s.m f0 k ((fr * 1024 + 215 : Nat) : Int), s.cnt⟩ ∧ Spc (enS s.m f0 k ((fr * 1024 + 215 : Nat) : Int)) t0 f1 f0 (updP P k fr) := by
  obtain ⟨a, b, c⟩ := pgk hk
  have hd := h.dn hk
  have hz : (dnP s.m t0 (524288 + k)).2 = 0 := by rw [hd]
  have hb := bldP_there (ts := ts) hz
  rw [hd] at hb
  have l1 : lvS s ts t0 2 = (f1, s, ts) := by unfold lvS; rw [h.e1, if_neg (by omega), show (f1 * 1024 + 1) / 1024 = f1 from by omega]
  refine ⟨⟨?_, ?_⟩, h.nf hk hP, hz, hb, ?_, h.set hk hfr hfl h02 h12⟩
  · rw [a]
    exact ⟨h0, by omega, fun _ => by rw [h.e1]; omega, fun e => by rw [h.e1] at e; omega⟩
  · rw [a, b, l1]
    exact ⟨h1, by omega, fun _ => by show en s.m f1 0 / 1024 < 16; rw [h.e0]; omega, fun e => by have e' : en s.m f1 0 = 0 := e; rw [h.e0] at e'; omega⟩
  · unfold mapS
    rw [hb, c]
    show (⟨s.ow, s.bt, enS s.m f0 k (((fr * 1024 + 209 : Nat) : Int) + 6), s.cnt⟩ : PSt) = _
    rw [show ((fr * 1024 + 209 : Nat) : Int) + 6 = ((fr * 1024 + 215 : Nat) : Int) from by omega]
/-- the first page: two tables are taken for it -/
theorem map_first {s : PSt} {ts : List Int} {fr : Nat} (hk : k < 4) (hfr : fr ≠ 0) (hfl : fr < 16) (h0 : t0 < 16) (hz : en s.m t0 2 = 0) (g1 : freeP s.ow = some f1) (g2 : freeP (s.ow.set f1 (-1)) = some f0) (h1 : f1 < 16) (h2 : f0 < 16) (h01 : t0 ≠ f1) (h02 : t0 ≠ f0) (h12 : f1 ≠ f0) :
    ∃ m', BlOk 16 s ts t0 (524288 + k) ∧ (fndP s.m t0 (524288 + k)).2.2.2 = false ∧ (dnP s.m t0 (524288 + k)).2 = 2 ∧ (bldP s ts t0 (524288 + k)).2.2 = ts ++ [(f1 : Int)] ++ [(f0 : Int)] ∧
    mapS s ts t0 (524288 + k) fr 6 = ⟨(s.ow.set f1 (-1)).set f0 (-1), s.bt, m', s.cnt⟩ ∧ Spc m' t0 f1 f0 (updP (fun _ => 0) k fr) ∧ ∀ x, ¬ (x / 4096 = t0 ∨ x / 4096 = f1 ∨ x / 4096 = f0) → m' x = s.m x := by
  obtain ⟨a, b, c⟩ := pgk hk
  obtain ⟨m1, hm1⟩ : ∃ m1, m1 = enS (clrF s.m f1) t0 2 ((f1 * 1024 + 1 : Nat) : Int) := ⟨_, rfl⟩
  obtain ⟨m2, hm2⟩ : ∃ m2, m2 = enS (clrF m1 f0) f1 0 ((f0 * 1024 + 1 : Nat) : Int) := ⟨_, rfl⟩
  have l1 : lvS s ts t0 2 = (f1, ⟨s.ow.set f1 (-1), s.bt, m1, s.cnt⟩, ts ++ [(f1 : Int)]) := by
    unfold lvS; rw [if_pos hz, g1, hm1]; rfl
  have z1 : en m1 f1 0 = 0 := by rw [hm1, en_set_far _ _ _ _ _ _ (by omega) (by omega) (Or.inl h01), en_clr _ _ _ (by omega)]
  have l2 : lvS ⟨s.ow.set f1 (-1), s.bt, m1, s.cnt⟩ (ts ++ [(f1 : Int)]) f1 0 = (f0, ⟨(s.ow.set f1 (-1)).set f0 (-1), s.bt, m2, s.cnt⟩, ts ++ [(f1 : Int)] ++ [(f0 : Int)]) := by
    unfold lvS
    show (if en m1 f1 0 = 0 then _ else _) = _
    rw [if_pos z1]
    show (((freeP (s.ow.set f1 (-1))).getD 0, (⟨(growS ⟨s.ow.set f1 (-1), s.bt, m1, s.cnt⟩ ((freeP (s.ow.set f1 (-1))).getD 0)).ow, s.bt, enS (growS ⟨s.ow.set f1 (-1), s.bt, m1, s.cnt⟩ ((freeP (s.ow.set f1 (-1))).getD 0)).m f1 0 ((((freeP (s.ow.set f1 (-1))).getD 0 * 1024 + 1 : Nat)) : Int), s.cnt⟩ : PSt), ts ++ [(f1 : Int)] ++ [(((freeP (s.ow.set f1 (-1))).getD 0 : Nat) : Int)]) : Nat × PSt × List Int) = _
    rw [g2, hm2]; rfl
  have hb : bldP s ts t0 (524288 + k) = (f0, ⟨(s.ow.set f1 (-1)).set f0 (-1), s.bt, m2, s.cnt⟩, ts ++ [(f1 : Int)] ++ [(f0 : Int)]) := by
    unfold bldP; rw [a, b, l1]; exact l2
  have ev1 : lv1 s.m t0 (524288 + k) = 0 := by unfold lv1; rw [a]; exact hz
  have ed : dnP s.m t0 (524288 + k) = (0, 2) := by unfold dnP; rw [if_pos ev1]
  have q : Spc m2 t0 f1 f0 (fun _ => 0) := by
    refine ⟨?_, ?_, fun j hj => ?_⟩
    · rw [hm2, en_set_far _ _ _ _ _ _ (by omega) (by omega) (Or.inl (Ne.symm h01)), en_clr_far _ _ _ _ (by omega) h02, hm1, en_set _ _ _ _ (by omega)]
    · rw [hm2, en_set _ _ _ _ (by omega)]
    · rw [hm2, en_set_far _ _ _ _ _ _ (by omega) (by omega) (Or.inl h12), en_clr _ _ _ (by omega)]; rfl
  have q2 := q.set hk hfr hfl h02 h12
  refine ⟨enS m2 f0 k ((fr * 1024 + 215 : Nat) : Int), ⟨?_, ?_⟩, ?_, by rw [ed], by rw [hb], ?_, q2, fun x hx => ?_⟩
  · rw [a]
    exact ⟨h0, by omega, fun e => absurd hz e, fun _ => ⟨_, g1⟩⟩
  · rw [a, b, l1]
    exact ⟨h1, by omega, fun e => absurd z1 e, fun _ => ⟨_, g2⟩⟩
  · unfold fndP; rw [ed]; rfl
  · unfold mapS
    rw [hb, c]
    show (⟨_, s.bt, enS m2 f0 k (((fr * 1024 + 209 : Nat) : Int) + 6), s.cnt⟩ : PSt) = _
    rw [show ((fr * 1024 + 209 : Nat) : Int) + 6 = ((fr * 1024 + 215 : Nat) : Int) from by omega]
  · rw [enS_far _ _ _ _ (by omega) _ (by omega), hm2, enS_far _ _ _ _ (by omega) _ (by omega)]
    unfold clrF; rw [if_neg (by omega), hm1, enS_far _ _ _ _ (by omega) _ (by omega)]
    unfold clrF; rw [if_neg (by omega)]
end
/-- the owners behind the takes; behind a's tables, b's -/
def owT : List Int := [-1, -1, -1, 1, 2, 1, 2, 1, 2, 0, 0, 0, 0, 0, 0, 0]
def owA (ba : Bool) : List Int := if ba then [-1, -1, -1, 1, 2, 1, 2, 1, 2, -1, -1, 0, 0, 0, 0, 0] else owT
def owB (ba bb : Bool) : List Int := if bb then (if ba then [-1, -1, -1, 1, 2, 1, 2, 1, 2, -1, -1, -1, -1, 0, 0, 0] else [-1, -1, -1, 1, 2, 1, 2, 1, 2, -1, -1, 0, 0, 0, 0, 0]) else owA ba
/-- whose frames: the guest's space at root t0 with tables f1, f0 (b: built), its pages' frames among those that q holds -/
def SpcB (b : Bool) (m : Nat → Int) (t0 f1 f0 : Nat) (P : Nat → Nat) (q : Nat → Prop) : Prop := (∀ k, k < 4 → P k ≠ 0 → q (P k)) ∧ if b then Spc m t0 f1 f0 P else (en m t0 2 = 0 ∧ ∀ k, k < 4 → P k = 0)
theorem SpcB.keep {D : Nat → Prop} {b : Bool} {m m' : Nat → Int} {t0 f1 f0 : Nat} {P : Nat → Nat} {q : Nat → Prop} (h : SpcB b m t0 f1 f0 P q) (hm : ∀ x, ¬ D (x / 4096) → m' x = m x) (h0 : ¬ D t0) (h1 : b = true → ¬ D f1 ∧ ¬ D f0) : SpcB b m' t0 f1 f0 P q := by
  refine ⟨h.1, ?_⟩
  have h2 := h.2
  cases b with
  | true => exact Spc.keep (m := m) (D := D) h2 hm h0 (h1 rfl).1 (h1 rfl).2
  | false => exact ⟨(en_keep hm h0 (by omega)).trans h2.1, h2.2⟩
end Go.Proofs.Ytpodeclkgcgpgaa
/- StageApart: two spaces, a step of each. -/
namespace Go.Proofs.Ytpodeclkgcgpgaa
set_option linter.unusedVariables false
set_option linter.unusedSimpArgs false
open Go.RowKit
set_option maxRecDepth 100000

theorem BytesAt.cong {w : World} {b o n : Nat} {m m' : Nat → Int} (h : BytesAt w b m o n) (he : ∀ j, j < n → m' (o + j) = m (o + j)) : BytesAt w b m' o n := by
  obtain ⟨c, h1, h2, h3⟩ := h
  exact ⟨c, h1, h2, fun j hj => by rw [he j hj]; exact h3 j hj⟩
theorem BytesAt.upd {S : Nat → Prop} {w w' : World} {b o n : Nat} {m : Nat → Int} (h : BytesAt w b m o n) (hU : Upd S w w') (hb : ¬ S b) : BytesAt w' b m o n := by
  obtain ⟨c, h1, h2, h3⟩ := h
  exact ⟨c, h1.upd hU hb, h2, h3⟩
theorem BytesAt.lt {w : World} {b o n : Nat} {m : Nat → Int} (h : BytesAt w b m o n) : b < w.heap.size := by
  obtain ⟨c, h1, _⟩ := h
  exact h1.lt
theorem swC_CS {x : Nat} (h : CS (swC x)) : x = 1 ∨ x = 3 ∨ x = 9 ∨ x = 10 := by
  unfold CS swC at h
  split at h
  · omega
  · split at h
    · omega
    · split at h
      · omega
      · split at h <;> omega
section
variable {own own3 : Nat → Nat} {rp sp pp n : Nat} {res harts vmid : Int} {ts : List Int} {s : PSt} {w w' : World}
theorem swap_step (h : Step CS (fun b => swC (own b)) w own3 w') : Step (fun x => x = 1 ∨ x = 3 ∨ x = 9 ∨ x = 10) own w (fun b => swC (own3 b)) w' :=
  ⟨h.upd.mono (fun i _ hc => swC_CS hc), fun b hb => by show swC (own3 b) = own b; rw [h.old b hb]; exact swC_swC _⟩
theorem swap_step0 (h : Step (fun _ => False) (fun b => swC (own b)) w own3 w') : Step (fun _ => False) own w (fun b => swC (own3 b)) w' :=
  ⟨h.upd.mono (fun i _ hc => hc), fun b hb => by show swC (own3 b) = own b; rw [h.old b hb]; exact swC_swC _⟩
theorem swap_gs (h : GS own3 w' sp rp pp vmid n res harts s ts) : PM (fun b => swC (own3 b)) 3 1 w' pp rp 0 n res harts s ∧ SpAs (fun b => swC (own3 b)) w' sp rp pp vmid ts :=
  ⟨h.1.swap, h.2.as⟩
end
section
variable {own : Nat → Nat} {c rp sp pp n t0 : Nat} {vmid : Int} {ts : List Int} {m : Nat → Int} {w : World}
/-- a write where no page is -/
theorem sp_Write_gone (addr k : Nat) (v : Int) (hk : k = 1 ∨ k = 2 ∨ k = 4 ∨ k = 8) (ha : addr + k ≤ 549755813888) (hM : MemAt ramK own c w rp 0 n m) (hS : SpAt own w sp rp pp vmid ((t0 : Int) :: ts))
    (hd : DnOk n m t0 (addr / 4096)) (hnf : (fndP m t0 (addr / 4096)).2.2.2 = false) :
    Calls Try.prog 42 #[.pointer (some ⟨sp, 0, none⟩), .int .u64 (addr : Int), .int .i64 (k : Int), .int .u64 v] w fun e w' => e = .returned (.bool false) ∧ Step (fun _ => False) own w own w' := by
  have HW := Lib.hid (st_whole (k : Int) w (by omega))
  have HH := Lib.hid (sp_Has_no (fr := fun _ => 0) (pm := fun _ => 0) addr k (addr / 4096) (by omega) ha hM hS (fun page h1 h2 => by omega) ⟨Nat.le_refl _, by omega⟩ hd hnf)
  clear hM hS hd hnf hk
  go_enter Try.func42, Try.ntmps42
  go_wp2_with fail
  refine HW.out.mono ?_; rintro e w1 ⟨rfl, rfl⟩
  go_wp2_with fail
  refine HH.out.mono ?_; rintro e w1 ⟨rfl, hS1⟩
  have H1 := Lib.hid hS1
  clear HW HH hS1
  go_wp2
  go_ret
  exact ⟨rfl, H1.out⟩
end
/-- both spaces' state -/
def tsA (ba : Bool) : List Int := if ba then [1, 9, 10] else [1]
def tsB (ba bb : Bool) : List Int := if bb then (if ba then [2, 11, 12] else [2, 9, 10]) else [2]
def qA (f : Nat) : Prop := f = 3 ∨ f = 5 ∨ f = 7
def qB (f : Nat) : Prop := f = 4 ∨ f = 6 ∨ f = 8
def b1 (ba : Bool) : Nat := if ba then 11 else 9
def b0 (ba : Bool) : Nat := if ba then 12 else 10
structure AI (own : Nat → Nat) (w : World) (sa sb pp p1 : Nat) (ba bb : Bool) (PA PB : Nat → Nat) (m : Nat → Int) : Prop where
  pm : ∃ bt cnt, PM own 3 1 w pp p1 0 16 1 1 ⟨owB ba bb, bt, m, cnt⟩
  sa : SpAt own w sa p1 pp 1 (tsA ba)
  sb : SpAs own w sb p1 pp 2 (tsB ba bb)
  a : SpcB ba m 1 9 10 PA qA
  b : SpcB bb m 2 (b1 ba) (b0 ba) PB qB
section
variable {own own' : Nat → Nat} {sa sb pp p1 : Nat} {ba bb : Bool} {PA PB : Nat → Nat} {m : Nat → Int} {w w' : World}
theorem AI.step {C : Nat → Prop} (h : AI own w sa sb pp p1 ba bb PA PB m) (hS : Step C own w own' w') (hc : ¬ C 1 ∧ ¬ C 3 ∧ ¬ C 5 ∧ ¬ C 6 ∧ ¬ C 9 ∧ ¬ C 10) : AI own' w' sa sb pp p1 ba bb PA PB m := by
  obtain ⟨bt, cnt, hp⟩ := h.pm
  exact ⟨⟨bt, cnt, hp.1.step hS hc.2.1, hp.2.step hS hc.1⟩, h.sa.step hS hc.2.2.1 hc.2.2.2.1, h.sb.step hS hc.2.2.2.2.1 hc.2.2.2.2.2, h.a, h.b⟩
theorem q_bd {f : Nat} : (qA f → f ≠ 0 ∧ f < 16) ∧ (qB f → f ≠ 0 ∧ f < 16) := ⟨fun h => by unfold qA at h; omega, fun h => by unfold qB at h; omega⟩
theorem b_bd (ba : Bool) : b1 ba < 16 ∧ b0 ba < 16 ∧ 2 ≠ b1 ba ∧ 2 ≠ b0 ba ∧ b1 ba ≠ b0 ba ∧ 1 ≠ b1 ba ∧ 1 ≠ b0 ba := by cases ba <;> decide
theorem free_a : freeP (owB false false) = some 9 ∧ freeP ((owB false false).set 9 (-1)) = some 10 ∧ ((owB false false).set 9 (-1)).set 10 (-1) = owB true false ∧ countP (owB false false) 0 = 7 := ⟨by decide, by decide, by decide, by decide⟩
theorem free_b (ba : Bool) : freeP (owB ba false) = some (b1 ba) ∧ freeP ((owB ba false).set (b1 ba) (-1)) = some (b0 ba) ∧ ((owB ba false).set (b1 ba) (-1)).set (b0 ba) (-1) = owB ba true ∧ 2 ≤ countP (owB ba false) 0 := by
  cases ba <;> exact ⟨by decide, by decide, by decide, by decide⟩
/-- a's Map -/
theorem ai_mapA (h : AI own w sa sb pp p1 ba false PA PB m) (r fr : Nat) (hr : r < 4) (hq : qA fr) :
    Calls Try.prog 40 #[.pointer (some ⟨sa, 0, none⟩), .int .u64 ((524288 + r : Nat) : Int), .int .i64 (fr : Int), .int .i64 6] w fun e w' => ∃ er, e = .returned (.int .i64 er) ∧
      ∃ own' ba' PA' m', Step (fun x => x = 1 ∨ x = 3 ∨ x = 5 ∨ x = 6) own w own' w' ∧ AI own' w' sa sb pp p1 ba' false PA' PB m' := by
  obtain ⟨bt, cnt, hp⟩ := h.pm
  obtain ⟨hf0, hf16⟩ := q_bd.1 hq
  have h6 : permOk 6 := Or.inr (Or.inl rfl)
  have hba := h.a.2
  cases ba with
  | false =>
    have hz : en m 1 2 = 0 := hba.1
    have hP0 := hba.2
    obtain ⟨g1, g2, g3, g4⟩ := free_a
    obtain ⟨m', hb, hnf, hdn, hts, hms, hsp, hm⟩ := map_first (s := ⟨owB false false, bt, m, cnt⟩) (ts := [(1 : Int)]) (t0 := 1) (f1 := 9) (f0 := 10) (k := r) (fr := fr) hr hf0 hf16 (by decide) hz g1 g2 (by decide) (by decide) (by decide) (by decide) (by decide)
    have hG : GS own w sa p1 pp 1 16 1 1 ⟨owB false false, bt, m, cnt⟩ (((1 : Nat) : Int) :: []) := ⟨hp, h.sa⟩
    refine (sp_Map hG (by omega) (by decide) hf16 h6 hb hnf (by rw [hdn, g4]; decide)).mono ?_
    rintro e w' ⟨rfl, own', hS, hG'⟩
    refine ⟨0, rfl, own', true, updP (fun _ => 0) r fr, m', hS, ?_⟩
    rw [show (((1 : Nat) : Int) :: []) = [(1 : Int)] from rfl, hms, hts] at hG'
    refine ⟨⟨bt, cnt, ?_⟩, hG'.2, h.sb.step hS (by decide) (by decide), ⟨fun k hk hne => ?_, hsp⟩, ?_⟩
    · have := hG'.1
      rw [g3] at this; exact this
    · unfold updP at hne ⊢
      by_cases e : k = r
      · rw [if_pos e]; exact hq
      · rw [if_neg e] at hne; exact absurd rfl hne
    · have hb2 := h.b
      exact ⟨fun k hk hne => hb2.1 k hk hne, (en_keep (D := fun z => z = 1 ∨ z = 9 ∨ z = 10) hm (by decide) (by omega)).trans hb2.2.1, hb2.2.2⟩
  | true =>
    have hsp : Spc m 1 9 10 PA := hba
    have hG : GS own w sa p1 pp 1 16 1 1 ⟨owB true false, bt, m, cnt⟩ (((1 : Nat) : Int) :: [9, 10]) := ⟨hp, h.sa⟩
    by_cases hz : PA r = 0
    · obtain ⟨hb, hnf, hdn, hts, hms, hsp'⟩ := map_more (s := ⟨owB true false, bt, m, cnt⟩) (ts := (((1 : Nat) : Int) :: [9, 10])) hsp hr hz hf0 hf16 (by decide) (by decide) (by decide) (by decide) (by decide)
      refine (sp_Map hG (by omega) (by decide) hf16 h6 hb hnf (by rw [hdn]; exact Nat.zero_le _)).mono ?_
      rintro e w' ⟨rfl, own', hS, hG'⟩
      rw [hms, hts] at hG'
      refine ⟨0, rfl, own', true, updP PA r fr, _, hS, ⟨⟨bt, cnt, hG'.1⟩, hG'.2, h.sb.step hS (by decide) (by decide), ⟨fun k hk hne => ?_, hsp'⟩, ?_⟩⟩
      · unfold updP at hne ⊢
        by_cases e : k = r
        · rw [if_pos e]; exact hq
        · rw [if_neg e] at hne ⊢; exact h.a.1 k hk hne
      · exact h.b.keep (D := fun z => z = 10) (fun x hx => enS_far _ _ _ _ (by omega) x hx) (by decide) (fun e => by cases e)
    · obtain ⟨_, hl⟩ := q_bd.1 (h.a.1 r hr hz)
      refine (sp_Map_dup hG hf16 h6 (hsp.pg hr hz hl (by decide) (by decide) (by decide))).mono ?_
      rintro e w' ⟨rfl, hS⟩
      exact ⟨20, rfl, own, true, PA, m, hS.mono (fun _ h => h.elim), h.step hS (by simp)⟩
/-- b's Map -/
theorem ai_mapB (h : AI own w sa sb pp p1 ba bb PA PB m) (r fr : Nat) (hr : r < 4) (hq : qB fr) :
    Calls Try.prog 40 #[.pointer (some ⟨sb, 0, none⟩), .int .u64 ((524288 + r : Nat) : Int), .int .i64 (fr : Int), .int .i64 6] w fun e w' => ∃ er, e = .returned (.int .i64 er) ∧
      ∃ own' bb' PB' m', Step (fun x => x = 1 ∨ x = 3 ∨ x = 9 ∨ x = 10) own w own' w' ∧ AI own' w' sa sb pp p1 ba bb' PA PB' m' := by
  obtain ⟨bt, cnt, hp⟩ := h.pm
  obtain ⟨hf0, hf16⟩ := q_bd.2 hq
  have h6 : permOk 6 := Or.inr (Or.inl rfl)
  obtain ⟨d1, d0, e1, e0, e10, d11, d10⟩ := b_bd ba
  have hbb := h.b.2
  cases bb with
  | false =>
    have hz : en m 2 2 = 0 := hbb.1
    obtain ⟨g1, g2, g3, g4⟩ := free_b ba
    obtain ⟨m', hb, hnf, hdn, hts, hms, hsp, hm⟩ := map_first (s := ⟨owB ba false, bt, m, cnt⟩) (ts := [(2 : Int)]) (t0 := 2) (f1 := b1 ba) (f0 := b0 ba) (k := r) (fr := fr) hr hf0 hf16 (by decide) hz g1 g2 d1 d0 e1 e0 e10
    have hG : GS (fun b => swC (own b)) w sb p1 pp 2 16 1 1 ⟨owB ba false, bt, m, cnt⟩ (((2 : Nat) : Int) :: []) := ⟨hp.swap, h.sb⟩
    refine (sp_Map hG (by omega) (by decide) hf16 h6 hb hnf (by rw [hdn]; exact g4)).mono ?_
    rintro e w' ⟨rfl, own3, hS, hG'⟩
    have hS' := swap_step hS
    have hsg := swap_gs hG'
    rw [show (((2 : Nat) : Int) :: []) = [(2 : Int)] from rfl, hms, hts] at hsg
    refine ⟨0, rfl, _, true, updP (fun _ => 0) r fr, m', hS', ?_⟩
    refine ⟨⟨bt, cnt, ?_⟩, h.sa.step hS' (by decide) (by decide), ?_, ?_, ⟨fun k hk hne => ?_, hsp⟩⟩
    · have := hsg.1
      rw [g3] at this; exact this
    · have := hsg.2
      cases ba <;> exact this
    · refine h.a.keep (D := fun z => z = 2 ∨ z = b1 ba ∨ z = b0 ba) hm (by rintro (h | h | h) <;> omega) (fun e => ?_)
      subst e; exact ⟨by decide, by decide⟩
    · unfold updP at hne ⊢
      by_cases e : k = r
      · rw [if_pos e]; exact hq
      · rw [if_neg e] at hne; exact absurd rfl hne
  | true =>
    have hsp : Spc m 2 (b1 ba) (b0 ba) PB := hbb
    have hG : GS (fun b => swC (own b)) w sb p1 pp 2 16 1 1 ⟨owB ba true, bt, m, cnt⟩ (((2 : Nat) : Int) :: [(b1 ba : Int), (b0 ba : Int)]) := ⟨hp.swap, by have := h.sb; cases ba <;> exact this⟩
    by_cases hz : PB r = 0
    · obtain ⟨hb, hnf, hdn, hts, hms, hsp'⟩ := map_more (s := ⟨owB ba true, bt, m, cnt⟩) (ts := (((2 : Nat) : Int) :: [(b1 ba : Int), (b0 ba : Int)])) hsp hr hz hf0 hf16 (by decide) d1 d0 e0 e10
      refine (sp_Map hG (by omega) (by simp) hf16 h6 hb hnf (by rw [hdn]; exact Nat.zero_le _)).mono ?_
      rintro e w' ⟨rfl, own3, hS, hG'⟩
      have hS' := swap_step hS
      have hsg := swap_gs hG'
      rw [hms, hts] at hsg
      refine ⟨0, rfl, _, true, updP PB r fr, _, hS', ⟨⟨bt, cnt, hsg.1⟩, h.sa.step hS' (by decide) (by decide), ?_, ?_, ⟨fun k hk hne => ?_, hsp'⟩⟩⟩
      · have := hsg.2
        cases ba <;> exact this
      · refine h.a.keep (D := fun z => z = b0 ba) (fun x hx => enS_far _ _ _ _ (by omega) x hx) (by omega) (fun e => ?_)
        subst e; exact ⟨by decide, by decide⟩
      · unfold updP at hne ⊢
        by_cases e : k = r
        · rw [if_pos e]; exact hq
        · rw [if_neg e] at hne ⊢; exact h.b.1 k hk hne
    · obtain ⟨_, hl⟩ := q_bd.2 (h.b.1 r hr hz)
      refine (sp_Map_dup hG hf16 h6 (hsp.pg hr hz hl (by decide) d1 d0)).mono ?_
      rintro e w' ⟨rfl, hS⟩
      have hS' := swap_step0 hS
      exact ⟨20, rfl, _, true, PB, m, hS'.mono (fun _ h => h.elim), h.step hS' (by simp)⟩
/-- a's Write: it turns a's frames alone -/
theorem ai_write (h : AI own w sa sb pp p1 ba bb PA PB m) (r at8 : Nat) (v : Int) (hv : wfU v) (hr : r < 4) (hat : at8 < 512) :
    Calls Try.prog 42 #[.pointer (some ⟨sa, 0, none⟩), .int .u64 (((524288 + r) * 4096 + 8 * at8 : Nat) : Int), .int .i64 8, .int .u64 v] w fun e w' => ∃ ok, e = .returned (.bool ok) ∧
      ∃ own' m', Step (fun x => x = 1 ∨ x = 3 ∨ x = 5 ∨ x = 6) own w own' w' ∧ AI own' w' sa sb pp p1 ba bb PA PB m' ∧ ∀ x, ¬ qA (x / 4096) → m' x = m x := by
  obtain ⟨bt, cnt, hp⟩ := h.pm
  obtain ⟨addr, hadr⟩ : ∃ addr, addr = (524288 + r) * 4096 + 8 * at8 := ⟨_, rfl⟩
  rw [← hadr]
  have hpg : addr / 4096 = 524288 + r := by omega
  have hba := h.a.2
  obtain ⟨d1, d0, e1, e0, e10, d11, d10⟩ := b_bd ba
  have hend : (addr + 8 - 1) / 4096 = 524288 + r := by omega
  cases ba with
  | false =>
    have hz : lv1 m 1 (524288 + r) = 0 := by unfold lv1; rw [(pgk hr).1]; exact hba.1
    have hdo : DnOk 16 m 1 (addr / 4096) := by rw [hpg]; exact ⟨by decide, fun e => absurd hz e, fun e => absurd hz e⟩
    have hnf : (fndP m 1 (addr / 4096)).2.2.2 = false := by
      rw [hpg]; unfold fndP dnP; rw [hz]; rfl
    refine (sp_Write_gone (t0 := 1) addr 8 v (by omega) (by omega) hp.2 h.sa hdo hnf).mono ?_
    rintro e w' ⟨rfl, hS⟩
    exact ⟨false, rfl, own, m, hS.mono (fun _ h => h.elim), h.step hS (by simp), fun _ _ => rfl⟩
  | true =>
    have hsp : Spc m 1 9 10 PA := hba
    by_cases hz : PA r = 0
    · refine (sp_Write_gone (t0 := 1) addr 8 v (by omega) (by omega) hp.2 h.sa (by rw [hpg]; exact hsp.dnOk hr (by decide) (by decide) (by decide)) (by rw [hpg]; exact hsp.nf hr hz)).mono ?_
      rintro e w' ⟨rfl, hS⟩
      exact ⟨false, rfl, own, m, hS.mono (fun _ h => h.elim), h.step hS (by simp), fun _ _ => rfl⟩
    · have hqf := h.a.1 r hr hz
      obtain ⟨_, hl⟩ := q_bd.1 hqf
      have hG : GS own w sa p1 pp 1 16 1 1 ⟨owB true bb, bt, m, cnt⟩ (((1 : Nat) : Int) :: [9, 10]) := ⟨hp, h.sa⟩
      have hfar : ∀ z, z = PA r → ¬ (z = 1 ∨ z = 9 ∨ z = 10) := fun z e => by unfold qA at hqf; omega
      refine (sp_Write_ok (fr := fun _ => PA r) (pm := fun _ => 6) (D := fun z => z = PA r) addr 8 v (by omega) (by omega) hv hG
        (fun m' hm page h1 h2 => by
          obtain rfl : page = 524288 + r := by omega
          exact (hsp.keep (D := fun z => z = PA r) hm (fun e => hfar _ e (by omega)) (fun e => hfar _ e (by omega)) (fun e => hfar _ e (by omega))).pg hr hz hl (by decide) (by decide) (by decide)) (fun _ _ _ => rfl) (fun _ _ _ => by decide)).mono ?_
      rintro e w' ⟨rfl, own', hS, hG'⟩
      have hkeep : ∀ x, ¬ x / 4096 = PA r → wrG m (paG (fun _ => PA r) addr) v 8 x = m x := fun x hx => wrG_far (D := fun z => z = PA r) (fun j => by show (PA r * 4096 + (addr + j) % 4096) / 4096 = PA r; omega) 8 x hx
      refine ⟨true, rfl, own', _, hS, ⟨⟨bt, cnt, hG'.1⟩, hG'.2, h.sb.step hS (by decide) (by decide), h.a.keep (D := fun z => z = PA r) hkeep (fun e => hfar _ e (by omega)) (fun _ => ⟨fun e => hfar _ e (by omega), fun e => hfar _ e (by omega)⟩), ?_⟩, fun x hx => hkeep x (fun e => hx (by rw [e]; exact hqf))⟩
      refine h.b.keep (D := fun z => z = PA r) hkeep (fun e => by unfold qA at hqf; omega) (fun _ => ?_)
      unfold qA at hqf
      exact ⟨by show ¬ (11 = PA r); omega, by show ¬ (12 = PA r); omega⟩
end
end Go.Proofs.Ytpodeclkgcgpgaa
/- StageApart's walk. -/
namespace Go.Proofs.Ytpodeclkgcgpgaa
set_option linter.unusedVariables false
set_option linter.unusedSimpArgs false
open Go.RowKit
set_option maxRecDepth 100000

/-- the owners behind k takes for each -/
def oT : Nat → List Int
  | 0 => [-1, -1, -1, 0, 0, 0, 0, 0, 0, 0, 0, 0, 0, 0, 0, 0]
  | 1 => [-1, -1, -1, 1, 2, 0, 0, 0, 0, 0, 0, 0, 0, 0, 0, 0]
  | 2 => [-1, -1, -1, 1, 2, 1, 2, 0, 0, 0, 0, 0, 0, 0, 0, 0]
  | _ => owT
theorem oT_take (k : Nat) (hk : k < 3) : takeP (oT k) 1 = (((3 + 2 * k : Nat) : Int), 0, (oT k).set (3 + 2 * k) 1) ∧ takeP ((oT k).set (3 + 2 * k) 1) 2 = (((4 + 2 * k : Nat) : Int), 0, oT (k + 1)) := by
  have : ∀ k, k < 3 → takeP (oT k) 1 = (((3 + 2 * k : Nat) : Int), 0, (oT k).set (3 + 2 * k) 1) ∧ takeP ((oT k).set (3 + 2 * k) 1) 2 = (((4 + 2 * k : Nat) : Int), 0, oT (k + 1)) := by decide +kernel
  exact this k hk
def rowA (k : Nat) : List Int := ([3, 5, 7] : List Int).take k
def rowB (k : Nat) : List Int := ([4, 6, 8] : List Int).take k
theorem rowA_succ (k : Nat) (hk : k < 3) : rowA k ++ [((3 + 2 * k : Nat) : Int)] = rowA (k + 1) ∧ (rowA k).length = k := by
  have : ∀ k, k < 3 → rowA k ++ [((3 + 2 * k : Nat) : Int)] = rowA (k + 1) ∧ (rowA k).length = k := by decide +kernel
  exact this k hk
theorem rowB_succ (k : Nat) (hk : k < 3) : rowB k ++ [((4 + 2 * k : Nat) : Int)] = rowB (k + 1) ∧ (rowB k).length = k := by
  have : ∀ k, k < 3 → rowB k ++ [((4 + 2 * k : Nat) : Int)] = rowB (k + 1) ∧ (rowB k).length = k := by decide +kernel
  exact this k hk
theorem rowA_at (k : Nat) (hk : k < 3) : ∃ f : Nat, (rowA 3)[k]? = some (f : Int) ∧ qA f := by
  rcases (show k = 0 ∨ k = 1 ∨ k = 2 by omega) with rfl | rfl | rfl
  · exact ⟨3, rfl, Or.inl rfl⟩
  · exact ⟨5, rfl, Or.inr (Or.inl rfl)⟩
  · exact ⟨7, rfl, Or.inr (Or.inr rfl)⟩
theorem rowB_at (k : Nat) (hk : k < 3) : ∃ f : Nat, (rowB 3)[k]? = some (f : Int) ∧ qB f := by
  rcases (show k = 0 ∨ k = 1 ∨ k = 2 by omega) with rfl | rfl | rfl
  · exact ⟨4, rfl, Or.inl rfl⟩
  · exact ⟨6, rfl, Or.inr (Or.inl rfl)⟩
  · exact ⟨8, rfl, Or.inr (Or.inr rfl)⟩
section
variable {own : Nat → Nat} {rp pp n : Nat} {res harts : Int} {s : PSt} {w : World}
theorem pm_Take (h : PM own 3 1 w pp rp 0 n res harts s) (o f : Int) (ow' : List Int) (ht : takeP s.ow o = (f, 0, ow')) :
    Calls Try.prog 20 #[.pointer (some ⟨pp, 0, none⟩), .int .i64 o] w fun e w' => e = .returned (.tuple #[.int .i64 f, .int .i64 0]) ∧ Step (· = 3) own w own w' ∧ PM own 3 1 w' pp rp 0 n res harts ⟨ow', s.bt, s.m, s.cnt⟩ := by
  have hT := pool_Take h.1 o
  rw [ht] at hT
  refine hT.mono ?_
  rintro e w' ⟨rfl, hS, hP⟩
  exact ⟨rfl, hS, hP, h.2.step hS (by decide)⟩
end
/-- the law's own blocks -/
structure AW (w : World) (p1 p2 tb ob : Nat) (own' : Nat → Nat) (wr : World) (v0 v1 : Value) (lA lB : List Int) : Prop where
  st : Step (fun x => x ≠ 0) (fun _ => 0) w own' wr
  bt : Blk wr tb 27 #[.pointer (some ⟨p1, 0, none⟩), .pointer (some ⟨p2, 0, none⟩)]
  ot : own' tb = 0
  bo : Blk wr ob 132 #[v0, v1]
  oo : own' ob = 22
  r0 : Row own' 20 wr v0 lA
  r1 : Row own' 21 wr v1 lB
section
variable {w : World} {p1 p2 tb ob : Nat} {own' own2 : Nat → Nat} {wr w2 w3 : World} {v0 v1 v2 : Value} {lA lB l2 : List Int}
theorem AW.step {C : Nat → Prop} (h : AW w p1 p2 tb ob own' wr v0 v1 lA lB) (hS : Step C own' wr own2 w2) (hc : ¬ C 0 ∧ ¬ C 20 ∧ ¬ C 21 ∧ ¬ C 22) : AW w p1 p2 tb ob own2 w2 v0 v1 lA lB := by
  obtain ⟨a1, a2⟩ := hS.blk h.bt h.ot hc.1
  obtain ⟨b1, b2⟩ := hS.blk h.bo h.oo hc.2.2.2
  exact ⟨h.st.trans (hS.mono (fun x hx e => hc.1 (by rw [← e]; exact hx))), a1, a2, b1, b2, h.r0.step hS hc.2.1, h.r1.step hS hc.2.2.1⟩
theorem AW.app0 (h : AW w p1 p2 tb ob own' wr v0 v1 lA lB) (hS : Step (· = 20) own' wr own2 w3) (hr : Row own2 20 w3 v2 l2) :
    Step (fun x => x = 20 ∨ x = 22) own' wr own2 (w3.setCell ⟨ob, 0, none⟩ v2) ∧ AW w p1 p2 tb ob own2 (w3.setCell ⟨ob, 0, none⟩ v2) v2 v1 l2 lB := by
  obtain ⟨a1, a2⟩ := hS.blk h.bt h.ot (by omega)
  obtain ⟨b1, b2⟩ := hS.blk h.bo h.oo (by omega)
  have r1 := h.r1.step hS (by omega)
  have hS2 : Step (· = 22) own2 w3 own2 (w3.setCell ⟨ob, 0, none⟩ v2) := ⟨(Upd.refl _ _).setCell (.inl b2) _, fun _ _ => rfl⟩
  obtain ⟨c1, c2⟩ := hS2.blk a1 a2 (by omega)
  have hS3 : Step (fun x => x = 20 ∨ x = 22) own' wr own2 (w3.setCell ⟨ob, 0, none⟩ v2) := (hS.mono (fun x e => Or.inl e)).trans (hS2.mono (fun x e => Or.inr e))
  exact ⟨hS3, h.st.trans (hS3.mono (fun x hx => by omega)), c1, c2, b1.set_ 0 v2, b2, hr.step hS2 (by omega), r1.step hS2 (by omega)⟩
theorem AW.app1 (h : AW w p1 p2 tb ob own' wr v0 v1 lA lB) (hS : Step (· = 21) own' wr own2 w3) (hr : Row own2 21 w3 v2 l2) :
    Step (fun x => x = 21 ∨ x = 22) own' wr own2 (w3.setCell ⟨ob, 1, none⟩ v2) ∧ AW w p1 p2 tb ob own2 (w3.setCell ⟨ob, 1, none⟩ v2) v0 v2 lA l2 := by
  obtain ⟨a1, a2⟩ := hS.blk h.bt h.ot (by omega)
  obtain ⟨b1, b2⟩ := hS.blk h.bo h.oo (by omega)
  have r0 := h.r0.step hS (by omega)
  have hS2 : Step (· = 22) own2 w3 own2 (w3.setCell ⟨ob, 1, none⟩ v2) := ⟨(Upd.refl _ _).setCell (.inl b2) _, fun _ _ => rfl⟩
  obtain ⟨c1, c2⟩ := hS2.blk a1 a2 (by omega)
  have hS3 : Step (fun x => x = 21 ∨ x = 22) own' wr own2 (w3.setCell ⟨ob, 1, none⟩ v2) := (hS.mono (fun x e => Or.inl e)).trans (hS2.mono (fun x e => Or.inr e))
  exact ⟨hS3, h.st.trans (hS3.mono (fun x hx => by omega)), c1, c2, b1.set_ 1 v2, b2, r0.step hS2 (by omega), hr.step hS2 (by omega)⟩
end
section
variable {own : Nat → Nat} {sa sb pp p1 : Nat} {ba bb : Bool} {PA PB : Nat → Nat} {m : Nat → Int} {w : World}
theorem ai_mapA' (h : AI own w sa sb pp p1 ba false PA PB m) (r fr : Nat) (hr : r < 4) (hq : qA fr) (a : Int) (ha : a = ((524288 + r : Nat) : Int)) :
    Calls Try.prog 40 #[.pointer (some ⟨sa, 0, none⟩), .int .u64 a, .int .i64 (fr : Int), .int .i64 6] w fun e w' => ∃ er, e = .returned (.int .i64 er) ∧
      ∃ own' ba' PA' m', Step (fun x => x = 1 ∨ x = 3 ∨ x = 5 ∨ x = 6) own w own' w' ∧ AI own' w' sa sb pp p1 ba' false PA' PB m' := by subst ha; exact ai_mapA h r fr hr hq
theorem ai_mapB' (h : AI own w sa sb pp p1 ba bb PA PB m) (r fr : Nat) (hr : r < 4) (hq : qB fr) (a : Int) (ha : a = ((524288 + r : Nat) : Int)) :
    Calls Try.prog 40 #[.pointer (some ⟨sb, 0, none⟩), .int .u64 a, .int .i64 (fr : Int), .int .i64 6] w fun e w' => ∃ er, e = .returned (.int .i64 er) ∧
      ∃ own' bb' PB' m', Step (fun x => x = 1 ∨ x = 3 ∨ x = 9 ∨ x = 10) own w own' w' ∧ AI own' w' sa sb pp p1 ba bb' PA PB' m' := by subst ha; exact ai_mapB h r fr hr hq
theorem ai_write' (h : AI own w sa sb pp p1 ba bb PA PB m) (r at8 : Nat) (v : Int) (hv : wfU v) (hr : r < 4) (hat : at8 < 512) (a : Int) (ha : a = (((524288 + r) * 4096 + 8 * at8 : Nat) : Int)) :
    Calls Try.prog 42 #[.pointer (some ⟨sa, 0, none⟩), .int .u64 a, .int .i64 8, .int .u64 v] w fun e w' => ∃ ok, e = .returned (.bool ok) ∧
      ∃ own' m', Step (fun x => x = 1 ∨ x = 3 ∨ x = 5 ∨ x = 6) own w own' w' ∧ AI own' w' sa sb pp p1 ba bb PA PB m' ∧ ∀ x, ¬ qA (x / 4096) → m' x = m x := by subst ha; exact ai_write h r at8 v hv hr hat
/-- the root of b -/
theorem ai_rootB (h : AI own w sa sb pp p1 ba bb PA PB m) :
    Calls Try.prog 57 #[.pointer (some ⟨sb, 0, none⟩)] w fun e w' => e = .returned (.int .u64 2) ∧ Step (fun _ => False) own w own w' := by
  obtain ⟨bt, cnt, hp⟩ := h.pm
  have h1 : ∃ ts, SpAt (fun b => swC (own b)) w sb p1 pp 2 (((2 : Nat) : Int) :: ts) := by
    have := h.sb
    unfold tsB at this
    cases bb with
    | true => cases ba with
      | true => exact ⟨_, this⟩
      | false => exact ⟨_, this⟩
    | false => exact ⟨_, this⟩
  obtain ⟨ts, h1⟩ := h1
  refine (sp_RootA (t0 := 2) hp.swap.2 h1 (by decide)).mono ?_
  rintro e w' ⟨rfl, hS⟩
  have := swap_step0 hS
  simp only [swC_swC] at this
  exact ⟨rfl, this⟩
/-- what hardware reads of b -/
theorem ai_guest (h : AI own w sa sb pp p1 ba bb PA PB m) (r : Nat) (hr : r < 4) (a : Int) (ha : a = (((524288 + r) * 4096 : Nat) : Int)) :
    Calls Try.prog 56 #[.pointer (some ⟨p1, 0, none⟩), .int .u64 2, .int .u64 a, .int .i64 2] w fun e w' => ∃ (pa : Nat) (pm ft : Int), e = .returned (.tuple #[.int .u64 (pa : Int), .int .i64 pm, .int .i64 ft]) ∧
      Step (fun _ => False) own w own w' ∧ (ft = 2 ∨ (ft = 0 ∧ ∃ fr, qB fr ∧ pa = fr * 4096)) := by
  subst ha
  obtain ⟨bt, cnt, hp⟩ := h.pm
  obtain ⟨d1, d0, e1, e0, e10, d11, d10⟩ := b_bd ba
  have hbb := h.b.2
  have no : NoPg 16 m 2 (524288 + r) → Calls Try.prog 56 #[.pointer (some ⟨p1, 0, none⟩), .int .u64 2, .int .u64 (((524288 + r) * 4096 : Nat) : Int), .int .i64 2] w fun e w' => ∃ (pa : Nat) (pm ft : Int), e = .returned (.tuple #[.int .u64 (pa : Int), .int .i64 pm, .int .i64 ft]) ∧
      Step (fun _ => False) own w own w' ∧ (ft = 2 ∨ (ft = 0 ∧ ∃ fr, qB fr ∧ pa = fr * 4096)) := fun hN => by
    refine (page_Guest_no (t0 := 2) (page := 524288 + r) (acc := 2) hp.2 (by decide) (by omega) (by omega) (by decide) (by decide) hN).mono ?_
    rintro e w' ⟨rfl, hU⟩
    exact ⟨0, 0, 2, rfl, ⟨hU, fun _ _ => rfl⟩, Or.inl rfl⟩
  cases bb with
  | false => exact no (.a (by unfold lv1; rw [(pgk hr).1]; exact hbb.1))
  | true =>
    have hsp : Spc m 2 (b1 ba) (b0 ba) PB := hbb
    by_cases hz : PB r = 0
    · exact no (hsp.no hr hz d1 d0)
    · have hqf := h.b.1 r hr hz
      obtain ⟨_, hl⟩ := q_bd.2 hqf
      refine (page_Guest (t0 := 2) (acc := 2) hp.2 (by decide) (hsp.tab hr hz hl (by decide) d1 d0) (by decide) (show (524288 + r) * 4096 / 4096 = 524288 + r by omega) (by omega)).mono ?_
      rintro e w' ⟨rfl, hU⟩
      rw [if_pos (show letP 6 2 = true by decide), if_pos (show letP 6 2 = true by decide), if_pos (show letP 6 2 = true by decide)]
      exact ⟨PB r * 4096 + (524288 + r) * 4096 % 4096, 6, 0, rfl, ⟨hU, fun _ _ => rfl⟩, Or.inr ⟨rfl, PB r, hqf, by omega⟩⟩
end
end Go.Proofs.Ytpodeclkgcgpgaa
