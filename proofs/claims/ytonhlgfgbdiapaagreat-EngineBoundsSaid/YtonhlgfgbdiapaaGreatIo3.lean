import Derived.Test.YtonhlgfgbdiapaaGreatIo2
/- The IOMMU: Ring, record, blocked. -/
namespace Go.Proofs.YtonhlgfgbdiapaaGreat
set_option linter.unusedVariables false
set_option linter.unusedSimpArgs false
open Go.RowKit
set_option maxRecDepth 100000

section
variable {own : Nat → Nat} {c cm p rp tp n : Nat} {w : World} {s : Us} {m : Nat → Int}
theorem io_Ring (hU : UsAt own c w p rp tp s) (hM : MemAt ramK own cm w rp 0 n m) (a : Nat) (h1 : a % 4096 = 0) (h2 : a + 4096 ≤ n * 4096) :
    Calls Tryz.prog 8 #[.pointer (some ⟨p, 0, none⟩), .int .u64 (a : Int)] w fun e w' => e = .returned (.int .i64 0) ∧ Step (· = c) own w own w' ∧ UsAt own c w' p rp tp (usRg s a) := by
  have hsz := hM.sizes
  have hh := ram_hasC hM (a : Int) 4096 (by omega) (by omega) (by decide) (by decide)
  rw [show hasR 0 n (a : Int) 4096 = true from hasR_iff.2 ⟨by omega, by omega, by omega, by omega⟩] at hh
  have HH := Lib.hid hh
  have hz : (a : Int) % 4096 = 0 := by omega
  obtain ⟨c0, c1, c2, c3, c4, c5, c6⟩ := hU.rest
  have z2 := hU.froz 522 (by omega)
  have z3 := hU.froz 523 (by omega)
  have z4 := hU.froz 524 (by omega)
  have z5 := hU.froz 525 (by omega)
  have hlt := hU.lt
  have HU := Lib.hid hU
  clear hU hM hh h1 h2 hsz
  go_enter Tryz.func8, Tryz.ntmps8
  go_wp2_with fail
  ((with_reducible refine HH.out.mono ?_); rintro e wz ⟨rfl, q, rfl⟩)
  have hst : Step (fun _ => False) own w own (w.drewN q) := (Step.refl _ _ _).drewN q
  obtain ⟨r1, r2⟩ := (HU.out.step hst (fun h => h)).wRg a
  have HR := Lib.hid (And.intro ((hst.mono (C' := (· = c)) (fun _ h => h.elim)).trans r2) r1)
  clear hst r1 r2 HH HU
  go_wp2
  go_ret
  exact ⟨rfl, HR.out⟩
set_option maxHeartbeats 2000000 in
theorem io_record (hU : UsAt own c w p rp tp s) (hM : MemAt ramK own cm w rp 0 n m) (hcm : c ≠ cm) (hok : UsOk n s) (d k a : Nat) (hd : d < 8) (hk : k < 8) (ha : a < 18446744073709551616) :
    Calls Tryz.prog 68 #[.pointer (some ⟨p, 0, none⟩), .int .i64 (d : Int), .int .i64 (k : Int), .int .u64 (a : Int)] w fun e w' => e = .returned (.tuple #[]) ∧
      ∃ own', Step (fun x => x = c ∨ x = cm) own w own' w' ∧ UsAt own' c w' p rp tp (recS s) ∧ MemAt ramK own' cm w' rp 0 n (recM s m d k a) := by
  obtain ⟨c0, c1, c2, c3, c4, c5, c6⟩ := hU.rest
  have z5 := hU.froz 525 (by omega)
  have z6 := hU.froz 526 (by omega)
  have hlt := hU.lt
  have hsz := hM.sizes
  cases hr : recOk s with
  | false =>
    have hres : recM s m d k a = m := by unfold recM; rw [hr]; rfl
    rw [hres]
    obtain ⟨r1, r2⟩ := hU.wOv hr
    have HR := Lib.hid (And.intro (r2.mono (C' := fun x => x = c ∨ x = cm) (fun _ h => Or.inl h)) (And.intro r1 (hM.step r2 (fun e => hcm e.symm))))
    unfold recOk at hr
    have hun := hok.un
    rcases hq : s.rd with _ | _
    · rw [hq] at c3
      clear hU hM r1 r2 hr hres hok
      go_enter Tryz.func68, Tryz.ntmps68
      go_wp2
      (try simp only [Exit.inBlock, Exit.then])
      exact bodyPost_ret (results_none rfl _ _ _) rfl ⟨rfl, own, HR.out⟩
    · rw [hq] at c3 hr
      have hge : decide ((255 : Int) ≤ (s.un : Int)) = true := by simp at hr ⊢; omega
      clear hU hM r1 r2 hr hres hok
      go_enter Tryz.func68, Tryz.ntmps68
      go_wp2
      (try simp only [Exit.inBlock, Exit.then])
      exact bodyPost_ret (results_none rfl _ _ _) rfl ⟨rfl, own, HR.out⟩
  | true =>
    obtain ⟨hA, hun, hrd⟩ := recA_in hok hr
    have hres : recM s m d k a = put (put (put m (recA s) 4 d) (recA s + 4) 4 k) (recA s + 8) 8 a := by unfold recM; rw [hr]; rfl
    rw [hrd] at c3
    have hge : decide ((255 : Int) ≤ (s.un : Int)) = false := by simp; omega
    have hfi := hok.fi
    have hrg := hok.ring
    have hAe : recA s = s.ring + (s.fi + s.un) % 256 * 16 := rfl
    generalize recA s = A at *
    obtain ⟨w1e, _⟩ := wr_put n m A 4 rfl (by omega) (d : Int)
    obtain ⟨w2e, _⟩ := wr_put n (put m A 4 d) (A + 4) 4 rfl (by omega) (k : Int)
    obtain ⟨w3e, _⟩ := wr_put n (put (put m A 4 d) (A + 4) 4 k) (A + 8) 8 rfl (by omega) (a : Int)
    rw [show ((A + 4 : Nat) : Int) = (A : Int) + 4 from rfl] at w2e
    rw [show ((A + 8 : Nat) : Int) = (A : Int) + 8 from rfl] at w3e
    rw [show ((4 : Nat) : Int) = 4 from rfl] at w1e w2e
    rw [show ((8 : Nat) : Int) = 8 from rfl] at w3e
    rw [hres]
    have hstd : Step (fun _ => False) own w own w.drew := (Step.refl _ _ _).drew
    have hW1 := ram_Write (hM.step hstd (fun h => h)) (A : Int) 4 (d : Int) (by omega) (by omega) (by decide) (by decide) (by omega) (by omega)
    rw [w1e] at hW1
    have HW1 := Lib.hid hW1
    have H0 := Lib.hid (And.intro (hstd.mono (C' := fun x => x = c ∨ x = cm) (fun _ h => h.elim)) (And.intro (hU.step hstd (fun h => h)) (And.intro w2e (And.intro w3e hr))))
    have hAN : (A : Int) + 16 ≤ n * 4096 := by omega
    have hAE := Lib.hid hAe
    clear hU hM hok hres hr w1e w2e w3e hW1 hstd hAe hrd
    go_enter Tryz.func68, Tryz.ntmps68
    go_wp2_with fail
    refine wpE_region (S := fun (W' : World) => W'.cell? ⟨p, 522, none⟩ = some (.int .u64 (s.ring : Int)) ∧ W'.cell? ⟨p, 524, none⟩ = some (.int .i64 (s.fi : Int)) ∧ W'.cell? ⟨p, 525, none⟩ = some (.int .i64 (s.un : Int))) (s := 17) (by kernel_rfl) ?_
    have hS : (fun (W' : World) => W'.cell? ⟨p, 522, none⟩ = some (.int .u64 (s.ring : Int)) ∧ W'.cell? ⟨p, 524, none⟩ = some (.int .i64 (s.fi : Int)) ∧ W'.cell? ⟨p, 525, none⟩ = some (.int .i64 (s.un : Int))) _ := ⟨c2, c4, c5⟩
    refine wpE_take (i := 0) (oi := { dst := some 24, op := Go.Op.move (Go.Operand.tmp 0), type := 29, pos := "iommu.go:165", after := #[], guard := none }) (v := ?_) rfl (by kernel_rfl) (fun _ _ _ h => h) (Or.inl ⟨by rfl, fun W hW => ?_⟩) hS ?_
    rotate_left
    · obtain ⟨hw1, hw2, hw3⟩ := hW; go_simp; (try go_bits); (try rw [if_pos (by omega)]); (try with_reducible rfl)
    (try simp only [Act.put, List.setIfInBounds_toArray, List.set_cons_succ, List.set_cons_zero])
    refine wpE_take (i := 1) (oi := { dst := some 25, op := Go.Op.nilCheck (Go.Operand.tmp 24), type := 0, pos := "iommu.go:165", after := #[{ on := 0, ground := Go.Ground.data }], guard := none }) (v := ?_) rfl (by kernel_rfl) (fun _ _ _ h => h) (Or.inl ⟨by rfl, fun W hW => ?_⟩) hS ?_
    rotate_left
    · obtain ⟨hw1, hw2, hw3⟩ := hW; go_simp; (try go_bits); (try rw [if_pos (by omega)]); (try with_reducible rfl)
    (try simp only [Act.put, List.setIfInBounds_toArray, List.set_cons_succ, List.set_cons_zero])
    refine wpE_take (i := 2) (oi := { dst := some 26, op := Go.Op.fieldAddr 101 (Go.Operand.tmp 25) 3, type := 0, pos := "iommu.go:165", after := #[{ on := 1, ground := Go.Ground.data }], guard := none }) (v := ?_) rfl (by kernel_rfl) (fun _ _ _ h => h) (Or.inl ⟨by rfl, fun W hW => ?_⟩) hS ?_
    rotate_left
    · obtain ⟨hw1, hw2, hw3⟩ := hW; go_simp; (try go_bits); (try rw [if_pos (by omega)]); (try with_reducible rfl)
    (try simp only [Act.put, List.setIfInBounds_toArray, List.set_cons_succ, List.set_cons_zero])
    refine wpE_take (i := 3) (oi := { dst := some 27, op := Go.Op.load 23 (Go.Operand.tmp 26), type := 23, pos := "iommu.go:165", after := #[{ on := 2, ground := Go.Ground.data }], guard := none }) (v := ?_) rfl (by kernel_rfl) (fun _ _ _ h => h) (Or.inl ⟨by rfl, fun W hW => ?_⟩) hS ?_
    rotate_left
    · obtain ⟨hw1, hw2, hw3⟩ := hW; go_simp; (try go_bits); (try rw [if_pos (by omega)]); (try with_reducible rfl)
    (try simp only [Act.put, List.setIfInBounds_toArray, List.set_cons_succ, List.set_cons_zero])
    refine wpE_take (i := 4) (oi := { dst := some 28, op := Go.Op.move (Go.Operand.tmp 0), type := 29, pos := "iommu.go:165", after := #[], guard := none }) (v := ?_) rfl (by kernel_rfl) (fun _ _ _ h => h) (Or.inl ⟨by rfl, fun W hW => ?_⟩) hS ?_
    rotate_left
    · obtain ⟨hw1, hw2, hw3⟩ := hW; go_simp; (try go_bits); (try rw [if_pos (by omega)]); (try with_reducible rfl)
    (try simp only [Act.put, List.setIfInBounds_toArray, List.set_cons_succ, List.set_cons_zero])
    refine wpE_take (i := 5) (oi := { dst := some 29, op := Go.Op.nilCheck (Go.Operand.tmp 28), type := 0, pos := "iommu.go:165", after := #[{ on := 4, ground := Go.Ground.data }], guard := none }) (v := ?_) rfl (by kernel_rfl) (fun _ _ _ h => h) (Or.inl ⟨by rfl, fun W hW => ?_⟩) hS ?_
    rotate_left
    · obtain ⟨hw1, hw2, hw3⟩ := hW; go_simp; (try go_bits); (try rw [if_pos (by omega)]); (try with_reducible rfl)
    (try simp only [Act.put, List.setIfInBounds_toArray, List.set_cons_succ, List.set_cons_zero])
    refine wpE_take (i := 6) (oi := { dst := some 30, op := Go.Op.fieldAddr 101 (Go.Operand.tmp 29) 5, type := 0, pos := "iommu.go:165", after := #[{ on := 5, ground := Go.Ground.data }], guard := none }) (v := ?_) rfl (by kernel_rfl) (fun _ _ _ h => h) (Or.inl ⟨by rfl, fun W hW => ?_⟩) hS ?_
    rotate_left
    · obtain ⟨hw1, hw2, hw3⟩ := hW; go_simp; (try go_bits); (try rw [if_pos (by omega)]); (try with_reducible rfl)
    (try simp only [Act.put, List.setIfInBounds_toArray, List.set_cons_succ, List.set_cons_zero])
    refine wpE_take (i := 7) (oi := { dst := some 31, op := Go.Op.load 3 (Go.Operand.tmp 30), type := 3, pos := "iommu.go:165", after := #[{ on := 6, ground := Go.Ground.data }], guard := none }) (v := ?_) rfl (by kernel_rfl) (fun _ _ _ h => h) (Or.inl ⟨by rfl, fun W hW => ?_⟩) hS ?_
    rotate_left
    · obtain ⟨hw1, hw2, hw3⟩ := hW; go_simp; (try go_bits); (try rw [if_pos (by omega)]); (try with_reducible rfl)
    (try simp only [Act.put, List.setIfInBounds_toArray, List.set_cons_succ, List.set_cons_zero])
    refine wpE_take (i := 8) (oi := { dst := some 32, op := Go.Op.move (Go.Operand.tmp 0), type := 29, pos := "iommu.go:165", after := #[], guard := none }) (v := ?_) rfl (by kernel_rfl) (fun _ _ _ h => h) (Or.inl ⟨by rfl, fun W hW => ?_⟩) hS ?_
    rotate_left
    · obtain ⟨hw1, hw2, hw3⟩ := hW; go_simp; (try go_bits); (try rw [if_pos (by omega)]); (try with_reducible rfl)
    (try simp only [Act.put, List.setIfInBounds_toArray, List.set_cons_succ, List.set_cons_zero])
    refine wpE_take (i := 9) (oi := { dst := some 33, op := Go.Op.nilCheck (Go.Operand.tmp 32), type := 0, pos := "iommu.go:165", after := #[{ on := 8, ground := Go.Ground.data }], guard := none }) (v := ?_) rfl (by kernel_rfl) (fun _ _ _ h => h) (Or.inl ⟨by rfl, fun W hW => ?_⟩) hS ?_
    rotate_left
    · obtain ⟨hw1, hw2, hw3⟩ := hW; go_simp; (try go_bits); (try rw [if_pos (by omega)]); (try with_reducible rfl)
    (try simp only [Act.put, List.setIfInBounds_toArray, List.set_cons_succ, List.set_cons_zero])
    refine wpE_take (i := 10) (oi := { dst := some 34, op := Go.Op.fieldAddr 101 (Go.Operand.tmp 33) 6, type := 0, pos := "iommu.go:165", after := #[{ on := 9, ground := Go.Ground.data }], guard := none }) (v := ?_) rfl (by kernel_rfl) (fun _ _ _ h => h) (Or.inl ⟨by rfl, fun W hW => ?_⟩) hS ?_
    rotate_left
    · obtain ⟨hw1, hw2, hw3⟩ := hW; go_simp; (try go_bits); (try rw [if_pos (by omega)]); (try with_reducible rfl)
    (try simp only [Act.put, List.setIfInBounds_toArray, List.set_cons_succ, List.set_cons_zero])
    refine wpE_take (i := 11) (oi := { dst := some 35, op := Go.Op.load 3 (Go.Operand.tmp 34), type := 3, pos := "iommu.go:165", after := #[{ on := 10, ground := Go.Ground.data }], guard := none }) (v := ?_) rfl (by kernel_rfl) (fun _ _ _ h => h) (Or.inl ⟨by rfl, fun W hW => ?_⟩) hS ?_
    rotate_left
    · obtain ⟨hw1, hw2, hw3⟩ := hW; go_simp; (try go_bits); (try rw [if_pos (by omega)]); (try with_reducible rfl)
    (try simp only [Act.put, List.setIfInBounds_toArray, List.set_cons_succ, List.set_cons_zero])
    refine wpE_take (i := 12) (oi := { dst := some 36, op := Go.Op.binOp Go.BinOp.add 3 (Go.Operand.tmp 31) (Go.Operand.tmp 35) 3, type := 3, pos := "iommu.go:165", after := #[{ on := 7, ground := Go.Ground.data }, { on := 11, ground := Go.Ground.data }], guard := none }) (v := .int .i64 ((s.fi + s.un : Nat) : Int)) rfl (by kernel_rfl) (fun _ _ _ h => h) (Or.inl ⟨by rfl, fun W hW => ?_⟩) hS ?_
    · obtain ⟨hw1, hw2, hw3⟩ := hW; go_simp; (try go_bits); (try trivial)
    (try simp only [Act.put, List.setIfInBounds_toArray, List.set_cons_succ, List.set_cons_zero])
    refine wpE_take (i := 13) (oi := { dst := some 37, op := Go.Op.binOp Go.BinOp.rem 3 (Go.Operand.tmp 36) (Go.Operand.const (Go.Value.int Go.IntKind.i64 256)) 3, type := 3, pos := "iommu.go:165", after := #[{ on := 12, ground := Go.Ground.data }], guard := none }) (v := .int .i64 (((s.fi + s.un) % 256 : Nat) : Int)) rfl (by kernel_rfl) (fun _ _ _ h => h) (Or.inl ⟨by rfl, fun W hW => ?_⟩) hS ?_
    · obtain ⟨hw1, hw2, hw3⟩ := hW; go_simp; (try go_bits); (try trivial)
    (try simp only [Act.put, List.setIfInBounds_toArray, List.set_cons_succ, List.set_cons_zero])
    refine wpE_take (i := 14) (oi := { dst := some 38, op := Go.Op.binOp Go.BinOp.mul 3 (Go.Operand.tmp 37) (Go.Operand.const (Go.Value.int Go.IntKind.i64 16)) 3, type := 3, pos := "iommu.go:165", after := #[{ on := 13, ground := Go.Ground.data }], guard := none }) (v := .int .i64 (((s.fi + s.un) % 256 * 16 : Nat) : Int)) rfl (by kernel_rfl) (fun _ _ _ h => h) (Or.inl ⟨by rfl, fun W hW => ?_⟩) hS ?_
    · obtain ⟨hw1, hw2, hw3⟩ := hW; go_simp; (try go_bits); (try trivial)
    (try simp only [Act.put, List.setIfInBounds_toArray, List.set_cons_succ, List.set_cons_zero])
    refine wpE_take (i := 15) (oi := { dst := some 39, op := Go.Op.convert 3 23 (Go.Operand.tmp 38), type := 23, pos := "iommu.go:165", after := #[{ on := 14, ground := Go.Ground.data }], guard := none }) (v := .int .u64 (((s.fi + s.un) % 256 * 16 : Nat) : Int)) rfl (by kernel_rfl) (fun _ _ _ h => h) (Or.inl ⟨by rfl, fun W hW => ?_⟩) hS ?_
    · obtain ⟨hw1, hw2, hw3⟩ := hW; go_simp; (try go_bits); (try trivial)
    (try simp only [Act.put, List.setIfInBounds_toArray, List.set_cons_succ, List.set_cons_zero])
    refine wpE_take (i := 16) (oi := { dst := some 40, op := Go.Op.binOp Go.BinOp.add 23 (Go.Operand.tmp 27) (Go.Operand.tmp 39) 23, type := 23, pos := "iommu.go:165", after := #[{ on := 3, ground := Go.Ground.data }, { on := 15, ground := Go.Ground.data }], guard := none }) (v := .int .u64 (A : Int)) rfl (by kernel_rfl) (fun _ _ _ h => h) (Or.inl ⟨by rfl, fun W hW => ?_⟩) hS ?_
    · obtain ⟨hw1, hw2, hw3⟩ := hW; have hq := hAE.out; rw [hq]; go_simp; (try go_bits); (try rw [IntWalk.u64_in _ (by omega)]); (try trivial)
    (try simp only [Act.put, List.setIfInBounds_toArray, List.set_cons_succ, List.set_cons_zero])
    refine wpE_last (oi := { dst := some 8, op := Go.Op.assign (Go.Operand.tmp 40), type := 23, pos := "iommu.go:165", after := #[{ on := 16, ground := Go.Ground.data }, { on := 0, ground := Go.Ground.phase }, { on := 1, ground := Go.Ground.phase }, { on := 2, ground := Go.Ground.phase }, { on := 3, ground := Go.Ground.phase }, { on := 4, ground := Go.Ground.phase }, { on := 5, ground := Go.Ground.phase }, { on := 6, ground := Go.Ground.phase }, { on := 7, ground := Go.Ground.phase }, { on := 8, ground := Go.Ground.phase }, { on := 9, ground := Go.Ground.phase }, { on := 10, ground := Go.Ground.phase }, { on := 11, ground := Go.Ground.phase }, { on := 12, ground := Go.Ground.phase }, { on := 13, ground := Go.Ground.phase }, { on := 14, ground := Go.Ground.phase }, { on := 15, ground := Go.Ground.phase }, { on := 16, ground := Go.Ground.phase }], guard := none }) rfl (by kernel_rfl) (by kernel_rfl) (by rfl) (fun K hK => ?_)
    go_simp; (try go_bits); refine hK _ _ ?_; clear hK K
    clear hS
    have d0 : w.drew.cell? ⟨p, 0, none⟩ = some (.pointer (some ⟨rp, 0, none⟩)) := c0
    go_wp2_with fail
    ((with_reducible refine HW1.out.mono ?_); rintro e w1 ⟨rfl, own1, hS1, hM1⟩)
    have hU1 := H0.out.2.1.step hS1 hcm
    have hW2 := ram_Write hM1 ((A : Int) + 4) 4 (k : Int) (by omega) (by omega) (by decide) (by decide) (by omega) (by omega)
    rw [H0.out.2.2.1] at hW2
    have HW2 := Lib.hid hW2
    have H1 := Lib.hid (And.intro (H0.out.1.trans (hS1.mono (C' := fun x => x = c ∨ x = cm) (fun _ h => Or.inr h))) hU1)
    have e0 := hU1.rest.1
    clear hS1 hM1 hU1 hW2 HW1 d0
    go_wp2_with fail
    ((with_reducible refine HW2.out.mono ?_); rintro e w2 ⟨rfl, own2, hS2, hM2⟩)
    have hU2 := H1.out.2.step hS2 hcm
    have hW3 := ram_Write hM2 ((A : Int) + 8) 8 (a : Int) (by omega) (by omega) (by decide) (by decide) (by omega) (by omega)
    rw [H0.out.2.2.2.1] at hW3
    have HW3 := Lib.hid hW3
    have H2 := Lib.hid (And.intro (H1.out.1.trans (hS2.mono (C' := fun x => x = c ∨ x = cm) (fun _ h => Or.inr h))) hU2)
    have f0 := hU2.rest.1
    clear hS2 hM2 hU2 hW3 HW2 e0
    go_wp2_with fail
    ((with_reducible refine HW3.out.mono ?_); rintro e w3 ⟨rfl, own3, hS3, hM3⟩)
    have hU3 := H2.out.2.step hS3 hcm
    obtain ⟨_, _, _, _, _, g5, _⟩ := hU3.rest
    have gz := hU3.froz 525 (by omega)
    have gl := hU3.lt
    obtain ⟨r1, r2⟩ := hU3.wUn H0.out.2.2.2.2 _ rfl
    have H3 := Lib.hid (And.intro ((H2.out.1.trans (hS3.mono (C' := fun x => x = c ∨ x = cm) (fun _ h => Or.inr h))).trans (r2.mono (fun _ h => Or.inl h))) (And.intro r1 (hM3.step r2 (fun e => hcm e.symm))))
    clear hS3 hM3 hU3 HW3 f0 r1 r2 H0 H1 H2
    go_wp2
    go_end0
    exact ⟨rfl, own3, H3.out⟩
set_option maxHeartbeats 1000000 in
theorem io_blocked (hU : UsAt own c w p rp tp s) (hM : MemAt ramK own cm w rp 0 n m) (hcm : c ≠ cm) (hok : UsOk n s) (d k a : Nat) (hd : d < 8) (hk : k = 1 ∨ k = 2 ∨ k = 3 ∨ k = 4 ∨ k = 5) (ha : a < 18446744073709551616) :
    Calls Tryz.prog 36 #[.pointer (some ⟨p, 0, none⟩), .int .i64 (d : Int), .int .i64 (k : Int), .int .u64 (a : Int)] w fun e w' => e = .returned (.tuple #[]) ∧
      ∃ own', Step (fun x => x = c ∨ x = cm) own w own' w' ∧ UsAt own' c w' p rp tp (recS s) ∧ MemAt ramK own' cm w' rp 0 n (recM s m d k a) := by
  have hR := io_record hU hM hcm hok d k a hd (by omega) ha
  have HT := Lib.hid (io_there d w)
  have hde : decide (0 ≤ (d : Int) ∧ (d : Int) < 8) = true := by simp; omega
  clear hU hM hok
  rcases hk with rfl | rfl | rfl | rfl | rfl
  all_goals
    first
    | rw [show ((1 : Nat) : Int) = 1 from rfl] at hR ⊢
    | rw [show ((2 : Nat) : Int) = 2 from rfl] at hR ⊢
    | rw [show ((3 : Nat) : Int) = 3 from rfl] at hR ⊢
    | rw [show ((4 : Nat) : Int) = 4 from rfl] at hR ⊢
    | rw [show ((5 : Nat) : Int) = 5 from rfl] at hR ⊢
    have HR := Lib.hid hR
    clear hR
    go_enter Tryz.func36, Tryz.ntmps36
    go_wp2_with fail
    ((with_reducible refine HT.out.mono ?_); rintro e wz ⟨rfl, rfl⟩)
    rw [hde]
    clear HT
    go_wp2_with fail
    ((with_reducible refine HR.out.mono ?_); rintro e w1 ⟨rfl, hh⟩)
    have HX := Lib.hid hh
    clear HR hh
    go_wp2
    go_end0
    exact ⟨rfl, HX.out⟩
end
end Go.Proofs.YtonhlgfgbdiapaaGreat
