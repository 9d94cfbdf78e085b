import Derived.Test.YtpodeclkgcgpgaaSr
/- StageMemory's facts. -/
namespace Go.Proofs.Ytpodeclkgcgpgaa
set_option linter.unusedVariables false
set_option linter.unusedSimpArgs false
open Go.RowKit
set_option maxRecDepth 100000

section
variable {own : Nat → Nat} {c rp sp pp n t0 : Nat} {res harts vmid : Int} {ts : List Int} {s : PSt} {m : Nat → Int} {w : World}
theorem gs_Take (h : GS own w sp rp pp vmid n res harts s ts) (o f : Int) (ow' : List Int) (ht : takeP s.ow o = (f, 0, ow')) :
    Calls Try.prog 20 #[.pointer (some ⟨pp, 0, none⟩), .int .i64 o] w fun e w' => e = .returned (.tuple #[.int .i64 f, .int .i64 0]) ∧ Step CS own w own w' ∧ GS own w' sp rp pp vmid n res harts ⟨ow', s.bt, s.m, s.cnt⟩ ts := by
  have hT := pool_Take h.1.1 o
  rw [ht] at hT
  refine hT.mono ?_
  rintro e w' ⟨rfl, hS, hP⟩
  have hS' : Step CS own w own w' := hS.mono (fun x h => by subst h; exact Or.inr (Or.inl rfl))
  exact ⟨rfl, hS', ⟨hP, h.1.2.step hS (by decide)⟩, h.2.step hS (by decide) (by decide)⟩
end
/-- where tables stay, a page tells the same -/
theorem fnd_keep {D : Nat → Prop} {n t0 page : Nat} {m m' : Nat → Int} (hp : page < 134217728) (hm : ∀ x, ¬ D (x / 4096) → m' x = m x) (h0 : ¬ D t0) (h1 : ¬ D (lv1 m t0 page / 1024)) (h2 : ¬ D (dnP m t0 page).1) (hd : DnOk n m t0 page) :
    DnOk n m' t0 page ∧ fndP m' t0 page = fndP m t0 page := by
  have e1 : lv1 m' t0 page = lv1 m t0 page := en_keep hm h0 (by omega)
  have e0 : lv0 m' t0 page = lv0 m t0 page := by
    unfold lv0; rw [e1]; exact en_keep hm h1 (Nat.mod_lt _ (by omega))
  have ed : dnP m' t0 page = dnP m t0 page := by unfold dnP; rw [e1, e0]
  refine ⟨⟨hd.h0, by rw [e1]; exact hd.h1, by rw [e1, e0]; exact hd.h2⟩, ?_⟩
  unfold fndP
  rw [ed, en_keep hm h2 (Nat.mod_lt _ (by omega))]
theorem wrG_at {m : Nat → Int} {pa : Nat → Nat} {v : Int} : ∀ (k : Nat), (∀ i j, i < k → j < k → pa i = pa j → i = j) → ∀ i, i < k → wrG m pa v k (pa i) = byteOf v i := by
  intro k
  induction k with
  | zero => intro _ i hi; omega
  | succ k ih =>
    intro hin i hi
    show setB (wrG m pa v k) (pa k) (byteOf v k) (pa i) = _
    by_cases e : i = k
    · subst e; unfold setB; rw [if_pos rfl]
    · rw [setB_ne _ (fun h => e (hin i k hi (by omega) h))]
      exact ih (fun a b ha hb h => hin a b (by omega) (by omega) h) i (by omega)
/-- the state with two frames taken, one page, two pages -/
def sM : PSt := ⟨(s16.ow.set 3 1).set 4 1, s16.bt, s16.m, s16.cnt⟩
def mA (f : Nat) : PSt := mapS sM [1] 1 524288 f 6
def mB (f g : Nat) : PSt := mapS (mA f) [1, 5, 6] 1 524289 g 6
theorem take16a : takeP s16.ow 1 = (3, 0, s16.ow.set 3 1) := by kernel_rfl
theorem take16b : takeP (s16.ow.set 3 1) 1 = (4, 0, (s16.ow.set 3 1).set 4 1) := by kernel_rfl
def FG (f g : Nat) : Prop := (f = 3 ∧ g = 4) ∨ (f = 4 ∧ g = 3)
theorem sM_bl : BlOk 16 sM [1] 1 524288 := by
  have e1 : en sM.m 1 2 = 0 := by kernel_rfl
  have e2 : (lvS sM [1] 1 2).1 = 5 := by kernel_rfl
  have e3 : en (lvS sM [1] 1 2).2.1.m 5 0 = 0 := by kernel_rfl
  have e4 : freeP (lvS sM [1] 1 2).2.1.ow = some 6 := by kernel_rfl
  refine ⟨⟨by decide, by decide, fun h => absurd e1 h, fun _ => ⟨5, by kernel_rfl⟩⟩, ?_⟩
  show lvOk 16 (lvS sM [1] 1 2).2.1 (lvS sM [1] 1 2).1 0
  rw [e2]
  exact ⟨by decide, by decide, fun h => absurd e3 h, fun _ => ⟨6, e4⟩⟩
theorem sM_nf : (fndP sM.m 1 524288).2.2.2 = false := by kernel_rfl
theorem sM_dn : (dnP sM.m 1 524288).2 ≤ countP sM.ow 0 := by
  rw [show (dnP sM.m 1 524288).2 = 2 from by kernel_rfl, show countP sM.ow 0 = 11 from by kernel_rfl]; decide
theorem sM_ts : (bldP sM [1] 1 524288).2.2 = [1, 5, 6] := by kernel_rfl
theorem mA_lv {f g : Nat} (h : FG f g) : lv1 (mA f).m 1 524289 = 5121 ∧ lv0 (mA f).m 1 524289 = 6145 := by
  rcases h with ⟨rfl, rfl⟩ | ⟨rfl, rfl⟩
  · exact ⟨by kernel_rfl, by kernel_rfl⟩
  · exact ⟨by kernel_rfl, by kernel_rfl⟩
theorem mA_bl {f g : Nat} (h : FG f g) : BlOk 16 (mA f) [1, 5, 6] 1 524289 := by
  have e1 : en (mA f).m 1 2 = 5121 := (mA_lv h).1
  have e2 : lvS (mA f) [1, 5, 6] 1 2 = (5, mA f, [1, 5, 6]) := by unfold lvS; rw [e1]; rfl
  have e3 : en (mA f).m 5 0 = 6145 := by
    have := (mA_lv h).2
    unfold lv0 at this
    rw [(mA_lv h).1] at this
    exact this
  refine ⟨⟨by decide, by decide, fun _ => ?_, fun h0 => ?_⟩, ?_⟩
  · show en (mA f).m 1 2 / 1024 < 16; rw [e1]; decide
  · rw [show 524289 / 262144 = 2 from rfl, e1] at h0; cases h0
  · show lvOk 16 (lvS (mA f) [1, 5, 6] 1 2).2.1 (lvS (mA f) [1, 5, 6] 1 2).1 0
    rw [e2]
    exact ⟨by show 5 < 16; decide, by decide, fun _ => by show en (mA f).m 5 0 / 1024 < 16; rw [e3]; decide, fun h0 => by rw [e3] at h0; cases h0⟩
theorem mA_nf {f g : Nat} (h : FG f g) : (fndP (mA f).m 1 524289).2.2.2 = false := by
  rcases h with ⟨rfl, rfl⟩ | ⟨rfl, rfl⟩
  · kernel_rfl
  · kernel_rfl
theorem mA_dn {f g : Nat} (h : FG f g) : (dnP (mA f).m 1 524289).2 ≤ countP (mA f).ow 0 := by
  have : (dnP (mA f).m 1 524289).2 = 0 := by
    unfold dnP; rw [(mA_lv h).1, (mA_lv h).2]; rfl
  rw [this]; omega
theorem mA_ts {f g : Nat} (h : FG f g) : (bldP (mA f) [1, 5, 6] 1 524289).2.2 = [1, 5, 6] := by
  have : (dnP (mA f).m 1 524289).2 = 0 := by
    unfold dnP; rw [(mA_lv h).1, (mA_lv h).2]; rfl
  rw [bldP_there this]
theorem mB_pg {f g : Nat} (h : FG f g) : PgOk 16 (mB f g).m 1 524288 f 6 ∧ PgOk 16 (mB f g).m 1 524289 g 6 ∧ (lv1 (mB f g).m 1 524288 = 5121 ∧ lv0 (mB f g).m 1 524288 = 6145) ∧ (lv1 (mB f g).m 1 524289 = 5121 ∧ lv0 (mB f g).m 1 524289 = 6145) := by
  rcases h with ⟨rfl, rfl⟩ | ⟨rfl, rfl⟩
  all_goals
    refine ⟨?_, ?_, ⟨by kernel_rfl, by kernel_rfl⟩, ⟨by kernel_rfl, by kernel_rfl⟩⟩
  · have e1 : lv1 (mB 3 4).m 1 524288 = 5121 := by kernel_rfl
    have e0 : lv0 (mB 3 4).m 1 524288 = 6145 := by kernel_rfl
    exact ⟨by decide, ⟨by decide, by rw [e1]; intro _; decide, by rw [e0]; intro _ _; decide⟩, by kernel_rfl, by decide⟩
  · have e1 : lv1 (mB 3 4).m 1 524289 = 5121 := by kernel_rfl
    have e0 : lv0 (mB 3 4).m 1 524289 = 6145 := by kernel_rfl
    exact ⟨by decide, ⟨by decide, by rw [e1]; intro _; decide, by rw [e0]; intro _ _; decide⟩, by kernel_rfl, by decide⟩
  · have e1 : lv1 (mB 4 3).m 1 524288 = 5121 := by kernel_rfl
    have e0 : lv0 (mB 4 3).m 1 524288 = 6145 := by kernel_rfl
    exact ⟨by decide, ⟨by decide, by rw [e1]; intro _; decide, by rw [e0]; intro _ _; decide⟩, by kernel_rfl, by decide⟩
  · have e1 : lv1 (mB 4 3).m 1 524289 = 5121 := by kernel_rfl
    have e0 : lv0 (mB 4 3).m 1 524289 = 6145 := by kernel_rfl
    exact ⟨by decide, ⟨by decide, by rw [e1]; intro _; decide, by rw [e0]; intro _ _; decide⟩, by kernel_rfl, by decide⟩
theorem mB_no {f g : Nat} (h : FG f g) : (DnOk 16 (mB f g).m 1 524290 ∧ (fndP (mB f g).m 1 524290).2.2.2 = false ∧ lv1 (mB f g).m 1 524290 = 5121 ∧ (dnP (mB f g).m 1 524290).1 = 6) ∧
    (DnOk 16 (mB f g).m 1 524287 ∧ (fndP (mB f g).m 1 524287).2.2.2 = false ∧ lv1 (mB f g).m 1 524287 = 0 ∧ (dnP (mB f g).m 1 524287).1 = 0) := by
  rcases h with ⟨rfl, rfl⟩ | ⟨rfl, rfl⟩
  · have e1 : lv1 (mB 3 4).m 1 524290 = 5121 := by kernel_rfl
    have e0 : lv0 (mB 3 4).m 1 524290 = 6145 := by kernel_rfl
    have e2 : lv1 (mB 3 4).m 1 524287 = 0 := by kernel_rfl
    exact ⟨⟨⟨by decide, by rw [e1]; intro _; decide, by rw [e0]; intro _ _; decide⟩, by kernel_rfl, e1, by kernel_rfl⟩, ⟨⟨by decide, fun h => absurd e2 h, fun h => absurd e2 h⟩, by kernel_rfl, e2, by kernel_rfl⟩⟩
  · have e1 : lv1 (mB 4 3).m 1 524290 = 5121 := by kernel_rfl
    have e0 : lv0 (mB 4 3).m 1 524290 = 6145 := by kernel_rfl
    have e2 : lv1 (mB 4 3).m 1 524287 = 0 := by kernel_rfl
    exact ⟨⟨⟨by decide, by rw [e1]; intro _; decide, by rw [e0]; intro _ _; decide⟩, by kernel_rfl, e1, by kernel_rfl⟩, ⟨⟨by decide, fun h => absurd e2 h, fun h => absurd e2 h⟩, by kernel_rfl, e2, by kernel_rfl⟩⟩
/-- the two pages' frames; a memory whose tables are as they were -/
def frM (f g page : Nat) : Nat := if page = 524288 then f else g
def Kept (f g : Nat) (m' : Nat → Int) : Prop := ∀ x, ¬ (x / 4096 = f ∨ x / 4096 = g) → m' x = (mB f g).m x
theorem FG.far {f g : Nat} (h : FG f g) : ¬ ((fun x => x = f ∨ x = g) 1) ∧ ¬ ((fun x => x = f ∨ x = g) 5) ∧ ¬ ((fun x => x = f ∨ x = g) 6) ∧ ¬ ((fun x => x = f ∨ x = g) 0) := by
  unfold FG at h; simp only; omega
theorem Kept.map {f g : Nat} (h : FG f g) {m' : Nat → Int} (hk : Kept f g m') : MapOk 16 m' 1 524288 524289 (frM f g) (fun _ => 6) := by
  have hf := h.far
  obtain ⟨p0, p1, ⟨a1, a0⟩, ⟨b1, b0⟩⟩ := mB_pg h
  intro page h1 h2
  rcases (show page = 524288 ∨ page = 524289 by omega) with rfl | rfl
  · exact p0.keep (D := fun x => x = f ∨ x = g) hk hf.1 (by rw [a1]; exact hf.2.1) (by rw [a0]; exact hf.2.2.1)
  · exact p1.keep (D := fun x => x = f ∨ x = g) hk hf.1 (by rw [b1]; exact hf.2.1) (by rw [b0]; exact hf.2.2.1)
theorem Kept.no {f g : Nat} (h : FG f g) {m' : Nat → Int} (hk : Kept f g m') : (DnOk 16 m' 1 524290 ∧ (fndP m' 1 524290).2.2.2 = false) ∧ (DnOk 16 m' 1 524287 ∧ (fndP m' 1 524287).2.2.2 = false) := by
  have hf := h.far
  obtain ⟨⟨d1, n1, l1, t1⟩, ⟨d2, n2, l2, t2⟩⟩ := mB_no h
  have k1 := fnd_keep (D := fun x => x = f ∨ x = g) (by decide) hk hf.1 (by rw [l1]; exact hf.2.1) (by rw [t1]; exact hf.2.2.1) d1
  have k2 := fnd_keep (D := fun x => x = f ∨ x = g) (by decide) hk hf.1 (by rw [l2]; exact hf.2.2.2) (by rw [t2]; exact hf.2.2.2) d2
  exact ⟨⟨k1.1, by rw [k1.2]; exact n1⟩, ⟨k2.1, by rw [k2.2]; exact n2⟩⟩
/-- the bytes' places -/
theorem paG_M {f g x k : Nat} (hx : x + k ≤ 8192) : ∀ i, i < k → paG (frM f g) (2147483648 + x) i = if x + i < 4096 then f * 4096 + (x + i) else g * 4096 + (x + i) - 4096 := by
  intro i hi
  unfold paG frM
  by_cases h : x + i < 4096
  · rw [if_pos h, if_pos (by omega)]; omega
  · rw [if_neg h, if_neg (by omega)]; omega
theorem paG_inj {f g x k : Nat} (h : FG f g) (hx : x + k ≤ 8192) : ∀ i j, i < k → j < k → paG (frM f g) (2147483648 + x) i = paG (frM f g) (2147483648 + x) j → i = j := by
  intro i j hi hj e
  rw [paG_M hx i hi, paG_M hx j hj] at e
  unfold FG at h
  split at e <;> split at e <;> omega
theorem paG_D {f g x : Nat} (j : Nat) : paG (frM f g) x j / 4096 = f ∨ paG (frM f g) x j / 4096 = g := by
  unfold paG frM
  split
  · left; omega
  · right; omega
/-- what is written is what is read -/
def mW (f g x : Nat) (v : Int) (k : Nat) : Nat → Int := wrG (mB f g).m (paG (frM f g) (2147483648 + x)) v k
theorem mW_kept (f g x : Nat) (v : Int) (k : Nat) : Kept f g (mW f g x v k) := fun y hy => wrG_far (D := fun z => z = f ∨ z = g) (fun j => paG_D j) k y hy
theorem mW_at {f g x k : Nat} {v : Int} (h : FG f g) (hx : x + k ≤ 8192) (i : Nat) (hi : i < k) : mW f g x v k (if x + i < 4096 then f * 4096 + (x + i) else g * 4096 + (x + i) - 4096) = byteOf v i := by
  rw [← paG_M (f := f) (g := g) hx i hi]
  exact wrG_at k (paG_inj h hx) i hi
theorem mW_num {f g x k : Nat} {v : Int} (h : FG f g) (hx : x + k ≤ 8192) : num (fun j => mW f g x v k (paG (frM f g) (2147483648 + x) j)) 0 k = v % 256 ^ k :=
  num_bytes k v 0 _ (fun i hi => by rw [Nat.zero_add]; exact wrG_at k (paG_inj h hx) i hi)
end Go.Proofs.Ytpodeclkgcgpgaa
