import Derived.Test.YtpodeclkgcgpgaaSp4
/- A guest's space: goodPerm, Map. -/
namespace Go.Proofs.Ytpodeclkgcgpgaa
set_option linter.unusedVariables false
open Go.RowKit
set_option maxRecDepth 100000

def permOk (p : Int) : Prop := p = 2 ∨ p = 6 ∨ p = 8 ∨ p = 10 ∨ p = 14
theorem st_goodPerm (p : Int) (hp : permOk p) (w : World) : Calls Try.prog 93 #[.int .i64 p] w fun e w' => e = .returned (.bool true) ∧ w = w' := by
  rcases hp with rfl | rfl | rfl | rfl | rfl
  all_goals
    go_enter Try.func93, Try.ntmps93
    go_wp2
    go_ret
    exact ⟨rfl, rfl⟩
/-- the tables of a page as they are built -/
def bldP (s : PSt) (ts : List Int) (t0 page : Nat) : Nat × PSt × List Int := lvS (lvS s ts t0 (page / 262144)).2.1 (lvS s ts t0 (page / 262144)).2.2 (lvS s ts t0 (page / 262144)).1 (page / 512 % 512)
structure BlOk (n : Nat) (s : PSt) (ts : List Int) (t0 page : Nat) : Prop where
  h1 : lvOk n s t0 (page / 262144)
  h2 : lvOk n (lvS s ts t0 (page / 262144)).2.1 (lvS s ts t0 (page / 262144)).1 (page / 512 % 512)
theorem BlOk.dn {n : Nat} {s : PSt} {ts : List Int} {t0 page : Nat} (h : BlOk n s ts t0 page) : DnOk n s.m t0 page := by
  refine ⟨h.h1.1, h.h1.2.2.1, fun a b => ?_⟩
  have h2 := h.h2
  have e : lvS s ts t0 (page / 262144) = (lv1 s.m t0 page / 1024, s, ts) := by unfold lvS; exact if_neg a
  rw [e] at h2
  exact h2.2.2.1 b
theorem bldP_there {s : PSt} {ts : List Int} {t0 page : Nat} (h : (dnP s.m t0 page).2 = 0) : bldP s ts t0 page = ((dnP s.m t0 page).1, s, ts) := by
  have h' := h
  unfold dnP at h' ⊢
  split at h'
  · cases h'
  · split at h'
    · cases h'
    · rename_i a b
      rw [if_neg a, if_neg b]
      have e : lvS s ts t0 (page / 262144) = (lv1 s.m t0 page / 1024, s, ts) := by unfold lvS; exact if_neg a
      unfold bldP
      rw [e]
      unfold lvS
      exact if_neg b
theorem lvS_lt {n : Nat} {s : PSt} {ts : List Int} {t i : Nat} (hl : s.ow.length = n) (h : lvOk n s t i) : (lvS s ts t i).1 < n ∧ (lvS s ts t i).2.1.ow.length = n := by
  unfold lvS
  by_cases hz : en s.m t i = 0
  · obtain ⟨f, hf⟩ := h.2.2.2 hz
    rw [if_pos hz, hf]
    have := (free_lt hf).1
    exact ⟨by simp; omega, by simp [growS, hl]⟩
  · rw [if_neg hz]
    exact ⟨h.2.2.1 hz, hl⟩
theorem leaf_or (f : Nat) (hf : f < 4503599627370496) (p : Int) (hp : permOk p) : bits .or .u64 (bits .or .u64 ((f * 1024 : Nat) : Int) 209) p = ((f * 1024 + 209 : Nat) : Int) + p ∧ IntKind.u64.wrap p = p := by
  have h1 : bits .or .u64 ((f * 1024 : Nat) : Int) 209 = ((f * 1024 + 209 : Nat) : Int) := by
    rw [show (209 : Int) = ((209 : Nat) : Int) from rfl, u64_or_nat _ _ (by omega) (by decide), nat_join 10 _ _ (by omega) (by decide)]
  rw [h1]
  refine ⟨?_, by rcases hp with rfl | rfl | rfl | rfl | rfl <;> decide⟩
  have key : ∀ q : Nat, q < 1024 → (209 ||| q) = 209 + q → bits .or .u64 ((f * 1024 + 209 : Nat) : Int) (q : Int) = ((f * 1024 + 209 : Nat) : Int) + (q : Int) := by
    intro q hq he
    rw [u64_or_nat _ _ (by omega) (by omega)]
    have e1 : f * 1024 + 209 = f * 1024 ||| 209 := (nat_join 10 _ _ (by omega) (by decide)).symm
    rw [e1, Nat.or_assoc, he, nat_join 10 _ _ (by omega) (by have : q ≤ 209 ||| q := Nat.right_le_or; have h2 := Nat.or_lt_two_pow (n := 10) (show 209 < 2 ^ 10 by decide) (by simpa using hq); rw [he] at h2; exact h2)]
    rw [← e1]; omega
  rcases hp with rfl | rfl | rfl | rfl | rfl
  · exact key 2 (by decide) (by decide)
  · exact key 6 (by decide) (by decide)
  · exact key 8 (by decide) (by decide)
  · exact key 10 (by decide) (by decide)
  · exact key 14 (by decide) (by decide)
section
variable {own : Nat → Nat} {rp sp pp n : Nat} {res harts vmid : Int} {ts : List Int} {s : PSt} {w : World}
/-- what Map leaves -/
def mapS (s : PSt) (ts : List Int) (t0 page fr : Nat) (p : Int) : PSt := ⟨(bldP s ts t0 page).2.1.ow, (bldP s ts t0 page).2.1.bt, enS (bldP s ts t0 page).2.1.m (bldP s ts t0 page).1 (page % 512) (((fr * 1024 + 209 : Nat) : Int) + p), (bldP s ts t0 page).2.1.cnt⟩
theorem GS.len (h : GS own w sp rp pp vmid n res harts s ts) : s.ow.length = n := by
  obtain ⟨⟨⟨qo, qb, d, hP⟩, _⟩, _⟩ := h
  exact hP.lo
set_option maxHeartbeats 2000000 in
theorem sp_Map {t0 page fr : Nat} {p : Int} (h : GS own w sp rp pp vmid n res harts s ((t0 : Int) :: ts)) (hp : page < 134217728) (hts : ts.length ≤ 1000) (hfr : fr < n) (hpm : permOk p)
    (hb : BlOk n s ((t0 : Int) :: ts) t0 page) (hnf : (fndP s.m t0 page).2.2.2 = false) (hc : (dnP s.m t0 page).2 ≤ countP s.ow 0) :
    Calls Try.prog 40 #[.pointer (some ⟨sp, 0, none⟩), .int .u64 (page : Int), .int .i64 (fr : Int), .int .i64 p] w fun e w' =>
      e = .returned (.int .i64 0) ∧ ∃ own', Step CS own w own' w' ∧ GS own' w' sp rp pp vmid n res harts (mapS s ((t0 : Int) :: ts) t0 page fr p) (bldP s ((t0 : Int) :: ts) t0 page).2.2 := by
  have hd := hb.dn
  have hn := h.1.2.sizes.2.2
  obtain ⟨c0, _, lsp⟩ := h.2.c0
  have hlen := h.len
  have hT1 := lvS_lt (ts := (t0 : Int) :: ts) hlen hb.h1
  have hT2 := lvS_lt (ts := (lvS s ((t0 : Int) :: ts) t0 (page / 262144)).2.2) hT1.2 hb.h2
  have HT := Lib.hid (show (bldP s ((t0 : Int) :: ts) t0 page).1 < n from hT2.1)
  have HFr := Lib.hid (ram_Frames h.1.2)
  have HGp := Lib.hid (st_goodPerm p hpm)
  have hF := sp_Find h.1.2 h.2 hd hp
  rw [hnf] at hF
  have HF := Lib.hid hF
  have hge : decide ((134217728 : Int) ≤ (page : Int)) = false := by simp; omega
  have hfr' : decide (n ≤ fr) = false := by simp; omega
  have hfr0 : decide ((fr : Int) < 0) = false := by simp
  have HPG := Lib.hid (And.intro hp (And.intro hts (And.intro hb (And.intro hd hc))))
  have HG := Lib.hid h
  have HLO := Lib.hid (leaf_or fr (by omega) p hpm)
  have hpb : 0 ≤ p ∧ p ≤ 14 := by rcases hpm with rfl | rfl | rfl | rfl | rfl <;> omega
  have H511 := Lib.hid (and511 page (by omega))
  have hcc : page % 512 < 512 := Nat.mod_lt _ (by omega)
  have HLT := Lib.hid (And.intro hfr (And.intro hn hpb))
  clear hF h hp hts hb hd hc hnf hpm hlen hT1 hT2 hn hpb hfr
  go_enter Try.func40, Try.ntmps40
  go_wp2_with fail
  refine HFr.out.mono ?_; rintro e w1 ⟨rfl, rfl⟩
  go_wp2_with fail
  refine (HGp.out _).mono ?_; rintro e w1 ⟨rfl, rfl⟩
  clear HFr HGp
  generalize (fndP s.m t0 page).1 = q1 at *
  generalize (fndP s.m t0 page).2.1 = q2 at *
  generalize (fndP s.m t0 page).2.2.1 = q3 at *
  go_wp2_with fail
  refine HF.out.mono ?_; rintro e w2 ⟨rfl, hS2⟩
  have hstA := hS2.trans (step_alloc own w2 (.cells #[.int .u64 q1, .int .i64 q2, .int .i64 q3] 85))
  have hG2 := HG.out.step hstA (by simp)
  have HD := Lib.hid (sp_down hG2.1.2 hG2.2 HPG.out.2.2.2.1 HPG.out.1)
  have H2 := Lib.hid (And.intro hstA hG2)
  clear hS2 hstA hG2 HF HG c0 lsp
  go_wp2_with fail
  refine HD.out.mono ?_; rintro e w3 ⟨rfl, hS3⟩
  have hG3 := H2.out.2.step hS3 (by simp)
  obtain ⟨x0, x1, xl⟩ := hG3.2.c0
  have HC := Lib.hid (pool_Count hG3.1.1 0)
  have H3 := Lib.hid (And.intro (H2.out.1.trans hS3) hG3)
  clear hS3 hG3 H2 HD
  obtain ⟨cn, hcn⟩ : ∃ cn, countP s.ow 0 = cn := ⟨_, rfl⟩
  obtain ⟨wn, hwn⟩ : ∃ wn, (dnP s.m t0 page).2 = wn := ⟨_, rfl⟩
  rw [hcn] at HC
  have hle : decide (cn < wn) = false := by
    have := HPG.out.2.2.2.2
    rw [hcn, hwn] at this
    simp; omega
  rw [hwn]
  go_wp2_with fail
  refine HC.out.mono ?_; rintro e wz ⟨rfl, rfl⟩
  have HWN := Lib.hid hwn
  clear HC hcn hwn
  have hcs : wn = 0 ∨ decide (0 < wn) = true := by
    rcases Nat.eq_zero_or_pos wn with h | h
    · exact Or.inl h
    · exact Or.inr (by simp; omega)
  rcases hcs with rfl | hw0
  have hbl := bldP_there (ts := (t0 : Int) :: ts) HWN.out
  have hG3 := H3.out.2
  have hstd : Step (fun _ => False) own w3 own w3.drew := (Step.refl _ _ _).drew
  have hG4 : GS own w3.drew sp rp pp vmid n res harts (bldP s ((t0 : Int) :: ts) t0 page).2.1 (bldP s ((t0 : Int) :: ts) t0 page).2.2 := by rw [hbl]; exact hG3.step hstd (by simp)
  have H4 := Lib.hid (And.intro (show Step CS own w own w3.drew from (H3.out.1.trans hstd).mono (fun _ h => h.elim)) hG4)
  have hbt : (dnP s.m t0 page).1 = (bldP s ((t0 : Int) :: ts) t0 page).1 := by rw [hbl]
  rw [hbt]
  clear hbl hG3 hstd hG4 H3 hbt x0 x1 xl
  go_wp2_with fail
  rotate_left
  have hB := sp_build H3.out.2 HPG.out.1 HPG.out.2.1 HPG.out.2.2.1.h1 HPG.out.2.2.1.h2
  have HB := Lib.hid hB
  clear hB x0 x1 xl
  go_wp2_with fail
  refine HB.out.mono ?_; rintro e w4 ⟨rfl, own4, hS4, hG4⟩
  have hstd : Step (fun _ => False) own4 w4 own4 w4.drew := (Step.refl _ _ _).drew
  have H4 := Lib.hid (And.intro (show Step CS own w own4 w4.drew from ((H3.out.1.mono (C' := CS) (fun _ h => h.elim)).trans hS4).trans (hstd.mono (fun _ h => h.elim))) (show GS own4 w4.drew sp rp pp vmid n res harts (bldP s ((t0 : Int) :: ts) t0 page).2.1 (bldP s ((t0 : Int) :: ts) t0 page).2.2 from hG4.step hstd (by simp)))
  rw [show (lvS (lvS s ((t0 : Int) :: ts) t0 (page / 262144)).2.1 (lvS s ((t0 : Int) :: ts) t0 (page / 262144)).2.2 (lvS s ((t0 : Int) :: ts) t0 (page / 262144)).1 (page / 512 % 512)).1 = (bldP s ((t0 : Int) :: ts) t0 page).1 from rfl]
  clear hS4 hG4 hstd H3 HB
  go_wp2_with fail
  rotate_left
  all_goals
    have c0 := H4.out.2.2.c0.1
    have HNu := Lib.hid (view_number H4.out.2.1.2 fr (by have := HLT.out; omega))
    have hS0 := H4.out
    have HOR := Lib.hid (And.intro (shl10 fr (by have := HLT.out; omega)) (shl10' fr (by have := HLT.out; omega)))
    clear hS0
    obtain ⟨T, hTe⟩ : ∃ T, (bldP s ((t0 : Int) :: ts) t0 page).1 = T := ⟨_, rfl⟩
    rw [hTe] at HT
    rw [hTe]
    have HTE := Lib.hid hTe
    clear hTe
    refine wpE_region (S := fun (W' : World) => W'.cell? ⟨sp, 0, none⟩ = some (.pointer (some ⟨rp, 0, none⟩))) (s := 18) (by kernel_rfl) ?_
    have hS : (fun (W' : World) => W'.cell? ⟨sp, 0, none⟩ = some (.pointer (some ⟨rp, 0, none⟩))) _ := c0
    refine wpE_take (i := 0) (oi := { dst := some 59, op := Go.Op.move (Go.Operand.tmp 0), type := 59, pos := "stage.go:153", after := #[], guard := none }) (v := ?_) rfl (by kernel_rfl) (fun _ _ _ h => h) (Or.inl ⟨by rfl, fun W hW => ?_⟩) hS ?_
    rotate_left
    · (have hw1 : W.cell? ⟨sp, 0, none⟩ = some (.pointer (some ⟨rp, 0, none⟩)) := hW); go_simp; (try go_bits); (try rw [if_pos (by omega)]); (try with_reducible rfl)
    (try simp only [Act.put, List.setIfInBounds_toArray, List.set_cons_succ, List.set_cons_zero])
    refine wpE_take (i := 1) (oi := { dst := some 60, op := Go.Op.nilCheck (Go.Operand.tmp 59), type := 0, pos := "stage.go:153", after := #[{ on := 0, ground := Go.Ground.data }], guard := none }) (v := ?_) rfl (by kernel_rfl) (fun _ _ _ h => h) (Or.inl ⟨by rfl, fun W hW => ?_⟩) hS ?_
    rotate_left
    · (have hw1 : W.cell? ⟨sp, 0, none⟩ = some (.pointer (some ⟨rp, 0, none⟩)) := hW); go_simp; (try go_bits); (try rw [if_pos (by omega)]); (try with_reducible rfl)
    (try simp only [Act.put, List.setIfInBounds_toArray, List.set_cons_succ, List.set_cons_zero])
    refine wpE_take (i := 2) (oi := { dst := some 61, op := Go.Op.fieldAddr 181 (Go.Operand.tmp 60) 0, type := 0, pos := "stage.go:153", after := #[{ on := 1, ground := Go.Ground.data }], guard := none }) (v := ?_) rfl (by kernel_rfl) (fun _ _ _ h => h) (Or.inl ⟨by rfl, fun W hW => ?_⟩) hS ?_
    rotate_left
    · (have hw1 : W.cell? ⟨sp, 0, none⟩ = some (.pointer (some ⟨rp, 0, none⟩)) := hW); go_simp; (try go_bits); (try rw [if_pos (by omega)]); (try with_reducible rfl)
    (try simp only [Act.put, List.setIfInBounds_toArray, List.set_cons_succ, List.set_cons_zero])
    refine wpE_take (i := 3) (oi := { dst := some 62, op := Go.Op.load 179 (Go.Operand.tmp 61), type := 179, pos := "stage.go:153", after := #[{ on := 2, ground := Go.Ground.data }], guard := none }) (v := viewV rp) rfl (by kernel_rfl) (fun _ _ _ h => h) (Or.inl ⟨by rfl, fun W hW => ?_⟩) hS ?_
    · (have hw1 : W.cell? ⟨sp, 0, none⟩ = some (.pointer (some ⟨rp, 0, none⟩)) := hW); go_simp; (try go_bits); (try rw [if_pos (by omega)]); (try with_reducible rfl)
    (try simp only [Act.put, List.setIfInBounds_toArray, List.set_cons_succ, List.set_cons_zero])
    refine wpE_take (i := 4) (oi := { dst := some 63, op := Go.Op.move (Go.Operand.tmp 11), type := 3, pos := "stage.go:153", after := #[], guard := none }) (v := ?_) rfl (by kernel_rfl) (fun _ _ _ h => h) (Or.inl ⟨by rfl, fun W hW => ?_⟩) hS ?_
    rotate_left
    · (have hw1 : W.cell? ⟨sp, 0, none⟩ = some (.pointer (some ⟨rp, 0, none⟩)) := hW); go_simp; (try go_bits); (try rw [if_pos (by omega)]); (try with_reducible rfl)
    (try simp only [Act.put, List.setIfInBounds_toArray, List.set_cons_succ, List.set_cons_zero])
    refine wpE_take (i := 5) (oi := { dst := some 64, op := Go.Op.move (Go.Operand.tmp 1), type := 30, pos := "stage.go:153", after := #[], guard := none }) (v := ?_) rfl (by kernel_rfl) (fun _ _ _ h => h) (Or.inl ⟨by rfl, fun W hW => ?_⟩) hS ?_
    rotate_left
    · (have hw1 : W.cell? ⟨sp, 0, none⟩ = some (.pointer (some ⟨rp, 0, none⟩)) := hW); go_simp; (try go_bits); (try rw [if_pos (by omega)]); (try with_reducible rfl)
    (try simp only [Act.put, List.setIfInBounds_toArray, List.set_cons_succ, List.set_cons_zero])
    refine wpE_take (i := 6) (oi := { dst := some 65, op := Go.Op.binOp Go.BinOp.and 30 (Go.Operand.tmp 64) (Go.Operand.const (Go.Value.int Go.IntKind.u64 511)) 30, type := 30, pos := "stage.go:153", after := #[{ on := 5, ground := Go.Ground.data }], guard := none }) (v := .int .u64 ((page % 512 : Nat) : Int)) rfl (by kernel_rfl) (fun _ _ _ h => h) (Or.inl ⟨by rfl, fun W hW => ?_⟩) hS ?_
    · (have hw1 : W.cell? ⟨sp, 0, none⟩ = some (.pointer (some ⟨rp, 0, none⟩)) := hW); go_simp; (try rw [H511.out]); (try omega)
    (try simp only [Act.put, List.setIfInBounds_toArray, List.set_cons_succ, List.set_cons_zero])
    refine wpE_take (i := 7) (oi := { dst := some 66, op := Go.Op.move (Go.Operand.tmp 0), type := 59, pos := "stage.go:153", after := #[], guard := none }) (v := ?_) rfl (by kernel_rfl) (fun _ _ _ h => h) (Or.inl ⟨by rfl, fun W hW => ?_⟩) hS ?_
    rotate_left
    · (have hw1 : W.cell? ⟨sp, 0, none⟩ = some (.pointer (some ⟨rp, 0, none⟩)) := hW); go_simp; (try go_bits); (try rw [if_pos (by omega)]); (try with_reducible rfl)
    (try simp only [Act.put, List.setIfInBounds_toArray, List.set_cons_succ, List.set_cons_zero])
    refine wpE_take (i := 8) (oi := { dst := some 67, op := Go.Op.nilCheck (Go.Operand.tmp 66), type := 0, pos := "stage.go:153", after := #[{ on := 7, ground := Go.Ground.data }], guard := none }) (v := ?_) rfl (by kernel_rfl) (fun _ _ _ h => h) (Or.inl ⟨by rfl, fun W hW => ?_⟩) hS ?_
    rotate_left
    · (have hw1 : W.cell? ⟨sp, 0, none⟩ = some (.pointer (some ⟨rp, 0, none⟩)) := hW); go_simp; (try go_bits); (try rw [if_pos (by omega)]); (try with_reducible rfl)
    (try simp only [Act.put, List.setIfInBounds_toArray, List.set_cons_succ, List.set_cons_zero])
    refine wpE_take (i := 9) (oi := { dst := some 68, op := Go.Op.fieldAddr 181 (Go.Operand.tmp 67) 0, type := 0, pos := "stage.go:153", after := #[{ on := 8, ground := Go.Ground.data }], guard := none }) (v := ?_) rfl (by kernel_rfl) (fun _ _ _ h => h) (Or.inl ⟨by rfl, fun W hW => ?_⟩) hS ?_
    rotate_left
    · (have hw1 : W.cell? ⟨sp, 0, none⟩ = some (.pointer (some ⟨rp, 0, none⟩)) := hW); go_simp; (try go_bits); (try rw [if_pos (by omega)]); (try with_reducible rfl)
    (try simp only [Act.put, List.setIfInBounds_toArray, List.set_cons_succ, List.set_cons_zero])
    refine wpE_take (i := 10) (oi := { dst := some 69, op := Go.Op.load 179 (Go.Operand.tmp 68), type := 179, pos := "stage.go:153", after := #[{ on := 9, ground := Go.Ground.data }], guard := none }) (v := viewV rp) rfl (by kernel_rfl) (fun _ _ _ h => h) (Or.inl ⟨by rfl, fun W hW => ?_⟩) hS ?_
    · (have hw1 : W.cell? ⟨sp, 0, none⟩ = some (.pointer (some ⟨rp, 0, none⟩)) := hW); go_simp; (try go_bits); (try rw [if_pos (by omega)]); (try with_reducible rfl)
    (try simp only [Act.put, List.setIfInBounds_toArray, List.set_cons_succ, List.set_cons_zero])
    refine wpE_take (i := 11) (oi := { dst := some 70, op := Go.Op.move (Go.Operand.tmp 2), type := 3, pos := "stage.go:153", after := #[], guard := none }) (v := ?_) rfl (by kernel_rfl) (fun _ _ _ h => h) (Or.inl ⟨by rfl, fun W hW => ?_⟩) hS ?_
    rotate_left
    · (have hw1 : W.cell? ⟨sp, 0, none⟩ = some (.pointer (some ⟨rp, 0, none⟩)) := hW); go_simp; (try go_bits); (try rw [if_pos (by omega)]); (try with_reducible rfl)
    (try simp only [Act.put, List.setIfInBounds_toArray, List.set_cons_succ, List.set_cons_zero])
    refine wpE_take (i := 15) (oi := { dst := some 74, op := Go.Op.move (Go.Operand.tmp 3), type := 3, pos := "stage.go:153", after := #[], guard := none }) (v := ?_) rfl (by kernel_rfl) (fun _ _ _ h => h) (Or.inl ⟨by rfl, fun W hW => ?_⟩) hS ?_
    rotate_left
    · (have hw1 : W.cell? ⟨sp, 0, none⟩ = some (.pointer (some ⟨rp, 0, none⟩)) := hW); go_simp; (try go_bits); (try rw [if_pos (by omega)]); (try with_reducible rfl)
    (try simp only [Act.put, List.setIfInBounds_toArray, List.set_cons_succ, List.set_cons_zero])
    refine wpE_take (i := 16) (oi := { dst := some 75, op := Go.Op.convert 3 30 (Go.Operand.tmp 74), type := 30, pos := "stage.go:153", after := #[{ on := 15, ground := Go.Ground.data }], guard := none }) (v := .int .u64 p) rfl (by kernel_rfl) (fun _ _ _ h => h) (Or.inl ⟨by rfl, fun W hW => ?_⟩) hS ?_
    · (have hw1 : W.cell? ⟨sp, 0, none⟩ = some (.pointer (some ⟨rp, 0, none⟩)) := hW); go_simp; (try rw [HLO.out.2])
    (try simp only [Act.put, List.setIfInBounds_toArray, List.set_cons_succ, List.set_cons_zero])
    refine wpE_only (i := 12) (oi := { dst := some 71, op := Go.Op.call { callee := Go.Callee.value (Go.Operand.func 97), args := #[Go.Operand.tmp 69, Go.Operand.tmp 70], argTypes := #[179, 3] }, type := 30, pos := "stage.go:153", after := #[{ on := 10, ground := Go.Ground.data }, { on := 11, ground := Go.Ground.data }], guard := none }) rfl (by kernel_rfl) (by rfl) (fun K hK => ?_)
    go_simp
    refine HNu.out.mono ?_; rintro e w5 ⟨rfl, hS5⟩
    have hG5 := H4.out.2.step hS5 (by simp)
    have hS : w5.cell? ⟨sp, 0, none⟩ = some (.pointer (some ⟨rp, 0, none⟩)) := hG5.2.c0.1
    have H5 := Lib.hid (And.intro (H4.out.1.trans (hS5.mono (fun _ h => h.elim))) hG5)
    clear hS5 hG5 H4 HNu
    refine hK _ _ hS ?_; clear hK K
    (try simp only [Act.put, List.setIfInBounds_toArray, List.set_cons_succ, List.set_cons_zero])
    refine wpE_take (i := 13) (oi := { dst := some 72, op := Go.Op.binOp Go.BinOp.shl 30 (Go.Operand.tmp 71) (Go.Operand.const (Go.Value.int Go.IntKind.u64 10)) 64, type := 30, pos := "stage.go:153", after := #[{ on := 12, ground := Go.Ground.data }], guard := none }) (v := .int .u64 ((fr * 1024 : Nat) : Int)) rfl (by kernel_rfl) (fun _ _ _ h => h) (Or.inl ⟨by rfl, fun W hW => ?_⟩) hS ?_
    · (have hw1 : W.cell? ⟨sp, 0, none⟩ = some (.pointer (some ⟨rp, 0, none⟩)) := hW); go_simp; (try rw [HOR.out.1]); (try rw [HOR.out.2]); (try omega)
    (try simp only [Act.put, List.setIfInBounds_toArray, List.set_cons_succ, List.set_cons_zero])
    refine wpE_take (i := 14) (oi := { dst := some 73, op := Go.Op.binOp Go.BinOp.or 30 (Go.Operand.tmp 72) (Go.Operand.const (Go.Value.int Go.IntKind.u64 209)) 30, type := 30, pos := "stage.go:153", after := #[{ on := 13, ground := Go.Ground.data }], guard := none }) (v := .int .u64 (bits .or .u64 ((fr * 1024 : Nat) : Int) 209)) rfl (by kernel_rfl) (fun _ _ _ h => h) (Or.inl ⟨by rfl, fun W hW => ?_⟩) hS ?_
    · (have hw1 : W.cell? ⟨sp, 0, none⟩ = some (.pointer (some ⟨rp, 0, none⟩)) := hW); go_simp; (try rw [show ((fr : Int) * 1024) = ((fr * 1024 : Nat) : Int) from by omega])
    (try simp only [Act.put, List.setIfInBounds_toArray, List.set_cons_succ, List.set_cons_zero])
    refine wpE_take (i := 17) (oi := { dst := some 76, op := Go.Op.binOp Go.BinOp.or 30 (Go.Operand.tmp 73) (Go.Operand.tmp 75) 30, type := 30, pos := "stage.go:153", after := #[{ on := 14, ground := Go.Ground.data }, { on := 16, ground := Go.Ground.data }], guard := none }) (v := .int .u64 (((fr * 1024 + 209 : Nat) : Int) + p)) rfl (by kernel_rfl) (fun _ _ _ h => h) (Or.inl ⟨by rfl, fun W hW => ?_⟩) hS ?_
    · (have hw1 : W.cell? ⟨sp, 0, none⟩ = some (.pointer (some ⟨rp, 0, none⟩)) := hW); go_simp; (try rw [show ((fr : Int) * 1024) = ((fr * 1024 : Nat) : Int) from by omega]); (try rw [HLO.out.1]); (try omega)
    (try simp only [Act.put, List.setIfInBounds_toArray, List.set_cons_succ, List.set_cons_zero])
    refine wpE_last (oi := { dst := some 77, op := Go.Op.call { callee := Go.Callee.value (Go.Operand.func 96), args := #[Go.Operand.tmp 62, Go.Operand.tmp 63, Go.Operand.tmp 65, Go.Operand.tmp 76], argTypes := #[179, 3, 30, 30] }, type := 0, pos := "stage.go:153", after := #[{ on := 3, ground := Go.Ground.data }, { on := 4, ground := Go.Ground.data }, { on := 6, ground := Go.Ground.data }, { on := 17, ground := Go.Ground.data }, { on := 12, ground := Go.Ground.chain }], guard := none }) rfl (by kernel_rfl) (by kernel_rfl) (by rfl) (fun K hK => ?_)
    go_simp
    have hV := view_set H5.out.2.1.2 T (page % 512) HT.out hcc (((fr * 1024 + 209 : Nat) : Int) + p) ⟨by have := HLT.out; omega, by have := HLT.out; omega⟩
    refine hV.mono ?_; rintro e w6 ⟨rfl, own6, hS6, hM6⟩
    have hP6 := H5.out.2.1.1.step hS6 (by omega)
    have hSp6 := H5.out.2.2.step hS6 (by omega) (by omega)
    have H6 := Lib.hid (And.intro (H5.out.1.trans (hS6.mono (fun x h => Or.inl h))) (And.intro hP6 (And.intro hM6 hSp6)))
    clear hV hS6 hP6 hM6 hSp6 hS H5
    refine hK _ _ ?_; clear hK K
    go_wp2
    go_ret
    refine ⟨rfl, own6, H6.out.1, ⟨H6.out.2.1, ?_⟩, H6.out.2.2.2⟩
    unfold mapS
    rw [HTE.out]
    exact H6.out.2.2.1
end
end Go.Proofs.Ytpodeclkgcgpgaa
