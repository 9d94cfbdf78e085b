import Derived.Test.YtpodeclkgcgpgaaSw
/- A guest's space: Has where a page is wanting, Read. -/
namespace Go.Proofs.Ytpodeclkgcgpgaa
set_option linter.unusedVariables false
set_option linter.unusedSimpArgs false
open Go.RowKit
set_option maxRecDepth 100000

section
variable {own : Nat → Nat} {c rp sp pp n t0 : Nat} {res harts vmid : Int} {ts : List Int} {s : PSt} {m : Nat → Int} {w : World}
set_option maxHeartbeats 1000000 in
theorem sp_Has_no {fr : Nat → Nat} {pm : Nat → Int} (addr k p0 : Nat) (hk : 1 ≤ k ∧ k ≤ 4096) (ha : addr + k ≤ 549755813888) (hM : MemAt ramK own c w rp 0 n m) (hS : SpAt own w sp rp pp vmid ((t0 : Int) :: ts)) (hP : ∀ page, addr / 4096 ≤ page → page < p0 → PgOk n m t0 page (fr page) (pm page))
    (h0 : addr / 4096 ≤ p0 ∧ p0 ≤ (addr + k - 1) / 4096) (hd : DnOk n m t0 p0) (hnf : (fndP m t0 p0).2.2.2 = false) :
    Calls Try.prog 41 #[.pointer (some ⟨sp, 0, none⟩), .int .u64 (addr : Int), .int .i64 (k : Int)] w fun e w' => e = .returned (.bool false) ∧ Step (fun _ => False) own w own w' := by
  have hk0 : decide (k = 0) = false := by simp; omega
  have HG := Lib.hid (And.intro hM (And.intro hS hP))
  have hfn := fun (wr : World) (hSt : Step (fun _ => False) own w own wr) => sp_Find (page := p0) (hM.step hSt (fun h => h)) (hS.step hSt (fun h => h) (fun h => h)) hd (by omega)
  rw [hnf] at hfn
  have HFN := Lib.hid hfn
  have hw1 : IntKind.u64.wrap ((addr : Int) + (k : Int)) = ((addr + k : Nat) : Int) := by rw [IntWalk.u64_in _ (by omega)]; omega
  obtain ⟨hk1, hk2⟩ := hk
  obtain ⟨h00, h01⟩ := h0
  clear hM hS hP hw1 hfn hnf hd
  go_enter Try.func41, Try.ntmps41
  go_wp2
  go_loopw [8] (fun i wr => ∃ (p : Nat), addr / 4096 ≤ p ∧ p ≤ p0 ∧ i = .int .u64 (p : Int) ∧ Hid (Step (fun _ => False) own w own wr)) (fun i _ => (addr + k - 1) / 4096 + 1 - (intOf i).toNat)
  case atStart => exact ⟨addr / 4096, by omega, by omega, by go_num, Step.refl _ _ _⟩
  case round =>
    obtain ⟨p, hp0, hp1, rfl, HR⟩ := hrel
    have hc : ((p : Int) ≤ ((addr : Int) + (k : Int) - 1) / 4096) := by omega
    have hlp : p ≤ 134217728 := by omega
    by_cases hlt : p < p0
    · have HF := Lib.hid (sp_FindE (HG.out.1.step HR.out (fun h => h)) (HG.out.2.1.step HR.out (fun h => h) (fun h => h)) (HG.out.2.2 p hp0 hlt) (p : Int) rfl)
      generalize fr p = f1 at *
      generalize pm p = q1 at *
      clear HFN
      go_wp2_with fail
      refine HF.out.mono ?_; rintro e w2 ⟨rfl, hS2⟩
      have H2 := Lib.hid ((HR.out.trans hS2).trans (step_alloc own w2 (.cells #[.int .u64 (p : Int), .int .i64 (f1 : Int), .int .i64 q1] 85)))
      clear hS2 HF HR
      go_wp2
      exact ⟨⟨p + 1, by omega, by omega, by go_num, H2.out⟩, by simp [intOf]; omega⟩
    · obtain rfl : p = p0 := by omega
      have HF := Lib.hid (HFN.out wr HR.out)
      generalize (fndP m t0 p).1 = f1 at *
      generalize (fndP m t0 p).2.1 = f2 at *
      generalize (fndP m t0 p).2.2.1 = f3 at *
      clear HFN
      go_wp2_with fail
      refine HF.out.mono ?_; rintro e w2 ⟨rfl, hS2⟩
      have H2 := Lib.hid ((HR.out.trans hS2).trans (step_alloc own w2 (.cells #[.int .u64 f1, .int .i64 f2, .int .i64 f3] 85)))
      clear hS2 HF HR
      go_wp2
      go_ret
      exact ⟨rfl, H2.out⟩
theorem sp_Read_no {fr : Nat → Nat} {pm : Nat → Int} (addr k p0 : Nat) (hk : k = 1 ∨ k = 2 ∨ k = 4 ∨ k = 8) (ha : addr + k ≤ 549755813888) (hM : MemAt ramK own c w rp 0 n m) (hS : SpAt own w sp rp pp vmid ((t0 : Int) :: ts)) (hP : ∀ page, addr / 4096 ≤ page → page < p0 → PgOk n m t0 page (fr page) (pm page))
    (h0 : addr / 4096 ≤ p0 ∧ p0 ≤ (addr + k - 1) / 4096) (hd : DnOk n m t0 p0) (hnf : (fndP m t0 p0).2.2.2 = false) :
    Calls Try.prog 43 #[.pointer (some ⟨sp, 0, none⟩), .int .u64 (addr : Int), .int .i64 (k : Int)] w fun e w' => e = .returned (.tuple #[.int .u64 0, .bool false]) ∧ Step (fun _ => False) own w own w' := by
  have HW := Lib.hid (st_whole (k : Int) w (by omega))
  have HH := Lib.hid (sp_Has_no addr k p0 (by omega) ha hM hS hP h0 hd hnf)
  clear hM hS hP h0 hd hnf hk
  go_enter Try.func43, Try.ntmps43
  go_wp2_with fail
  refine HW.out.mono ?_; rintro e w1 ⟨rfl, rfl⟩
  go_wp2_with fail
  refine HH.out.mono ?_; rintro e w1 ⟨rfl, hS1⟩
  have H1 := Lib.hid hS1
  clear HW HH hS1
  go_wp2
  go_ret2
  exact ⟨rfl, H1.out⟩
theorem num_fun_lt {g : Nat → Int} (hg : ∀ i, 0 ≤ g i ∧ g i < 256) (o j : Nat) (hj : j ≤ 7) : 0 ≤ num g o j ∧ num g o j < 72057594037927936 := ⟨num_nonneg hg j o, num_lt7 hg o hj⟩
theorem or_byte {x b : Int} (hx : 0 ≤ x ∧ x < 72057594037927936) (hb : 0 ≤ b ∧ b < 256) : bits .or .u64 (x * 256) b = b + 256 * x := by
  obtain ⟨X, rfl⟩ := Int.eq_ofNat_of_zero_le hx.1
  obtain ⟨B, rfl⟩ := Int.eq_ofNat_of_zero_le hb.1
  have e1 : ((X : Int) * 256) = ((X * 256 : Nat) : Int) := by omega
  have hX := hx.2
  have hB := hb.2
  rw [e1, u64_or_nat _ _ (by omega) (by omega), nat_join 8 _ _ (by omega) (by omega)]
  omega
theorem rd1 {n : Nat} {m : Nat → Int} {a : Nat} (h : a + 1 ≤ n * 4096) : rdR 0 n m (a : Int) 1 = (m a, true) := by
  have h1 : hasR 0 n (a : Int) 1 = true := hasR_iff.2 (by omega)
  simp [rdR, h1, okS, num]
set_option maxHeartbeats 2000000 in
theorem sp_Read_ok {fr : Nat → Nat} {pm : Nat → Int} (addr k : Nat) (hk : k = 1 ∨ k = 2 ∨ k = 4 ∨ k = 8) (ha : addr + k ≤ 549755813888) (hM : MemAt ramK own c w rp 0 n m) (hS : SpAt own w sp rp pp vmid ((t0 : Int) :: ts)) (hP : MapOk n m t0 (addr / 4096) ((addr + k - 1) / 4096) fr pm) :
    Calls Try.prog 43 #[.pointer (some ⟨sp, 0, none⟩), .int .u64 (addr : Int), .int .i64 (k : Int)] w fun e w' => e = .returned (.tuple #[.int .u64 (num (fun j => m (paG fr addr j)) 0 k), .bool true]) ∧ Step (fun _ => False) own w own w' := by
  have hk8 : 1 ≤ k ∧ k ≤ 8 := by omega
  have HW := Lib.hid (st_whole (k : Int) w (by omega))
  have HH := Lib.hid (sp_Has_ok addr k (by omega) ha hM hS hP)
  have hn := hM.sizes.2.2
  have hbd := hM.bd
  have HX := Lib.hid (And.intro hM (And.intro hS hP))
  have HB := Lib.hid hbd
  clear hM hS hP hk hbd
  obtain ⟨hk1, hk2⟩ := hk8
  obtain ⟨g, hg⟩ : ∃ g : Nat → Int, (fun j => m (paG fr addr j)) = g := ⟨_, rfl⟩
  rw [hg]
  have hgb : ∀ i, 0 ≤ g i ∧ g i < 256 := fun i => by rw [← hg]; exact HB.out _
  have HGB := Lib.hid (And.intro hg hgb)
  clear hg hgb
  go_enter Try.func43, Try.ntmps43
  go_wp2_with fail
  refine HW.out.mono ?_; rintro e w1 ⟨rfl, rfl⟩
  go_wp2_with fail
  refine HH.out.mono ?_; rintro e w1 ⟨rfl, hS1⟩
  have H1 := Lib.hid hS1
  clear HW HH hS1
  go_wp2
  go_loopw [8, 9] (fun v i wr => ∃ (j : Nat), j ≤ k ∧ i = .int .i64 ((j : Int) - 1) ∧ v = .int .u64 (num g j (k - j)) ∧ Hid (Step (fun _ => False) own w own wr)) (fun _ i _ => (intOf i + 1).toNat)
  case atStart => exact ⟨k, by omega, by go_num, by rw [Nat.sub_self]; rfl, H1.out⟩
  case round =>
    obtain ⟨j, hj, rfl, rfl, HR⟩ := hrel
    rcases j with _ | j
    · have e0 : (((0 : Nat) : Int) - 1) = -1 := rfl
      rw [e0, Nat.sub_zero]
      obtain ⟨x, hx⟩ : ∃ x, num g 0 k = x := ⟨_, rfl⟩
      rw [hx]
      have HX0 := Lib.hid hx
      clear hx
      go_wp2
      go_ret2
      rw [HX0.out]
      exact ⟨rfl, HR.out⟩
    · have e0 : (((j + 1 : Nat) : Int) - 1) = (j : Int) := by omega
      rw [e0]
      have hpg : addr / 4096 ≤ (addr + j) / 4096 ∧ (addr + j) / 4096 ≤ (addr + k - 1) / 4096 := by omega
      have hpk := HX.out.2.2 _ hpg.1 hpg.2
      have hstd : Step (fun _ => False) own wr own wr.drew := (Step.refl _ _ _).drew
      have hSt := HR.out.trans hstd
      have hM1 := HX.out.1.step hSt (fun h => h)
      have hS1 := HX.out.2.1.step hSt (fun h => h) (fun h => h)
      have HPl := Lib.hid (sp_place (addr + j) (by omega) hM1 hS1 hpk)
      have hfl := hpk.lt
      have c0 := hS1.c0.1
      have H3 := Lib.hid (And.intro hSt (And.intro hM1 hS1))
      have hwa : IntKind.u64.wrap ((addr : Int) + (j : Int)) = (addr : Int) + (j : Int) := IntWalk.u64_in _ (by omega)
      have hpa : m (fr ((addr + j) / 4096) * 4096 + (addr + j) % 4096) = g j := by rw [← HGB.out.1]; rfl
      obtain ⟨pa, hpae⟩ : ∃ pa, fr ((addr + j) / 4096) * 4096 + (addr + j) % 4096 = pa := ⟨_, rfl⟩
      have hpab : pa + 1 ≤ n * 4096 := by omega
      rw [hpae] at HPl hpa
      have HPA := Lib.hid hpa
      have hv := num_fun_lt HGB.out.2 (j + 1) (k - (j + 1)) (by omega)
      have hgj := HGB.out.2 j
      have hor := or_byte hv hgj
      have hnx : num g j (k - j) = g j + 256 * num g (j + 1) (k - (j + 1)) := by
        rw [show k - j = (k - (j + 1)) + 1 from by omega]; rfl
      have HNX := Lib.hid hnx
      clear hM1 hS1 hpk hpg HR hpa hpae hfl hnx hstd hSt
      generalize num g (j + 1) (k - (j + 1)) = x at *
      generalize g j = b at *
      obtain ⟨hv0, hv1⟩ := hv
      obtain ⟨hb0, hb1⟩ := hgj
      have hsh : IntKind.u64.wrap (x * 2 ^ 8) = x * 256 := by rw [show (2 : Int) ^ 8 = 256 from rfl]; exact IntWalk.u64_in _ (by omega)
      have hsh2 : IntKind.u64.wrap (x * 256) = x * 256 := IntWalk.u64_in _ (by omega)
      go_wp2_with fail
      refine wpE_region (S := fun (W' : World) => W'.cell? ⟨sp, 0, none⟩ = some (.pointer (some ⟨rp, 0, none⟩))) (s := 16) (by kernel_rfl) ?_
      have hS : (fun (W' : World) => W'.cell? ⟨sp, 0, none⟩ = some (.pointer (some ⟨rp, 0, none⟩))) _ := c0
      refine wpE_take (i := 0) (oi := { dst := some 29, op := Go.Op.move (Go.Operand.tmp 0), type := 59, pos := "stage.go:276", after := #[], guard := none }) (v := ?_) rfl (by kernel_rfl) (fun _ _ _ h => h) (Or.inl ⟨by rfl, fun W hW => ?_⟩) hS ?_
      rotate_left
      · (have hw1 : W.cell? ⟨sp, 0, none⟩ = some (.pointer (some ⟨rp, 0, none⟩)) := hW); go_simp; (try go_bits); (try rw [if_pos (by omega)]); (try with_reducible rfl)
      (try simp only [Act.put, List.setIfInBounds_toArray, List.set_cons_succ, List.set_cons_zero])
      refine wpE_take (i := 1) (oi := { dst := some 30, op := Go.Op.nilCheck (Go.Operand.tmp 29), type := 0, pos := "stage.go:276", after := #[{ on := 0, ground := Go.Ground.data }], guard := none }) (v := ?_) rfl (by kernel_rfl) (fun _ _ _ h => h) (Or.inl ⟨by rfl, fun W hW => ?_⟩) hS ?_
      rotate_left
      · (have hw1 : W.cell? ⟨sp, 0, none⟩ = some (.pointer (some ⟨rp, 0, none⟩)) := hW); go_simp; (try go_bits); (try rw [if_pos (by omega)]); (try with_reducible rfl)
      (try simp only [Act.put, List.setIfInBounds_toArray, List.set_cons_succ, List.set_cons_zero])
      refine wpE_take (i := 2) (oi := { dst := some 31, op := Go.Op.fieldAddr 181 (Go.Operand.tmp 30) 0, type := 0, pos := "stage.go:276", after := #[{ on := 1, ground := Go.Ground.data }], guard := none }) (v := ?_) rfl (by kernel_rfl) (fun _ _ _ h => h) (Or.inl ⟨by rfl, fun W hW => ?_⟩) hS ?_
      rotate_left
      · (have hw1 : W.cell? ⟨sp, 0, none⟩ = some (.pointer (some ⟨rp, 0, none⟩)) := hW); go_simp; (try go_bits); (try rw [if_pos (by omega)]); (try with_reducible rfl)
      (try simp only [Act.put, List.setIfInBounds_toArray, List.set_cons_succ, List.set_cons_zero])
      refine wpE_take (i := 3) (oi := { dst := some 32, op := Go.Op.fieldAddr 179 (Go.Operand.tmp 31) 0, type := 0, pos := "stage.go:276", after := #[{ on := 2, ground := Go.Ground.data }], guard := none }) (v := ?_) rfl (by kernel_rfl) (fun _ _ _ h => h) (Or.inl ⟨by rfl, fun W hW => ?_⟩) hS ?_
      rotate_left
      · (have hw1 : W.cell? ⟨sp, 0, none⟩ = some (.pointer (some ⟨rp, 0, none⟩)) := hW); go_simp; (try go_bits); (try rw [if_pos (by omega)]); (try with_reducible rfl)
      (try simp only [Act.put, List.setIfInBounds_toArray, List.set_cons_succ, List.set_cons_zero])
      refine wpE_take (i := 4) (oi := { dst := some 33, op := Go.Op.load 24 (Go.Operand.tmp 32), type := 24, pos := "stage.go:276", after := #[{ on := 3, ground := Go.Ground.data }], guard := none }) (v := ?_) rfl (by kernel_rfl) (fun _ _ _ h => h) (Or.inl ⟨by rfl, fun W hW => ?_⟩) hS ?_
      rotate_left
      · (have hw1 : W.cell? ⟨sp, 0, none⟩ = some (.pointer (some ⟨rp, 0, none⟩)) := hW); go_simp; (try go_bits); (try rw [if_pos (by omega)]); (try with_reducible rfl)
      (try simp only [Act.put, List.setIfInBounds_toArray, List.set_cons_succ, List.set_cons_zero])
      refine wpE_take (i := 5) (oi := { dst := some 34, op := Go.Op.move (Go.Operand.tmp 0), type := 59, pos := "stage.go:276", after := #[], guard := none }) (v := ?_) rfl (by kernel_rfl) (fun _ _ _ h => h) (Or.inl ⟨by rfl, fun W hW => ?_⟩) hS ?_
      rotate_left
      · (have hw1 : W.cell? ⟨sp, 0, none⟩ = some (.pointer (some ⟨rp, 0, none⟩)) := hW); go_simp; (try go_bits); (try rw [if_pos (by omega)]); (try with_reducible rfl)
      (try simp only [Act.put, List.setIfInBounds_toArray, List.set_cons_succ, List.set_cons_zero])
      refine wpE_take (i := 6) (oi := { dst := some 35, op := Go.Op.move (Go.Operand.tmp 1), type := 30, pos := "stage.go:276", after := #[], guard := none }) (v := ?_) rfl (by kernel_rfl) (fun _ _ _ h => h) (Or.inl ⟨by rfl, fun W hW => ?_⟩) hS ?_
      rotate_left
      · (have hw1 : W.cell? ⟨sp, 0, none⟩ = some (.pointer (some ⟨rp, 0, none⟩)) := hW); go_simp; (try go_bits); (try rw [if_pos (by omega)]); (try with_reducible rfl)
      (try simp only [Act.put, List.setIfInBounds_toArray, List.set_cons_succ, List.set_cons_zero])
      refine wpE_take (i := 7) (oi := { dst := some 36, op := Go.Op.move (Go.Operand.tmp 9), type := 3, pos := "stage.go:276", after := #[], guard := none }) (v := ?_) rfl (by kernel_rfl) (fun _ _ _ h => h) (Or.inl ⟨by rfl, fun W hW => ?_⟩) hS ?_
      rotate_left
      · (have hw1 : W.cell? ⟨sp, 0, none⟩ = some (.pointer (some ⟨rp, 0, none⟩)) := hW); go_simp; (try go_bits); (try rw [if_pos (by omega)]); (try with_reducible rfl)
      (try simp only [Act.put, List.setIfInBounds_toArray, List.set_cons_succ, List.set_cons_zero])
      refine wpE_take (i := 8) (oi := { dst := some 37, op := Go.Op.convert 3 30 (Go.Operand.tmp 36), type := 30, pos := "stage.go:276", after := #[{ on := 7, ground := Go.Ground.data }], guard := none }) (v := .int .u64 (j : Int)) rfl (by kernel_rfl) (fun _ _ _ h => h) (Or.inl ⟨by rfl, fun W hW => ?_⟩) hS ?_
      · (have hw1 : W.cell? ⟨sp, 0, none⟩ = some (.pointer (some ⟨rp, 0, none⟩)) := hW); go_simp; (try go_bits); (try trivial)
      (try simp only [Act.put, List.setIfInBounds_toArray, List.set_cons_succ, List.set_cons_zero])
      refine wpE_take (i := 9) (oi := { dst := some 38, op := Go.Op.binOp Go.BinOp.add 30 (Go.Operand.tmp 35) (Go.Operand.tmp 37) 30, type := 30, pos := "stage.go:276", after := #[{ on := 6, ground := Go.Ground.data }, { on := 8, ground := Go.Ground.data }], guard := none }) (v := .int .u64 ((addr : Int) + (j : Int))) rfl (by kernel_rfl) (fun _ _ _ h => h) (Or.inl ⟨by rfl, fun W hW => ?_⟩) hS ?_
      · (have hw1 : W.cell? ⟨sp, 0, none⟩ = some (.pointer (some ⟨rp, 0, none⟩)) := hW); go_simp; (try rw [hwa]); (try trivial)
      (try simp only [Act.put, List.setIfInBounds_toArray, List.set_cons_succ, List.set_cons_zero])
      refine wpE_only (i := 10) (oi := { dst := some 39, op := Go.Op.call { callee := Go.Callee.value (Go.Operand.func 99), args := #[Go.Operand.tmp 34, Go.Operand.tmp 38], argTypes := #[59, 30] }, type := 30, pos := "stage.go:276", after := #[{ on := 5, ground := Go.Ground.data }, { on := 9, ground := Go.Ground.data }], guard := none }) rfl (by kernel_rfl) (by rfl) (fun K hK => ?_)
      go_simp
      refine (HPl.out _ (by omega)).mono ?_; rintro e w5 ⟨rfl, hS5⟩
      have hM5 := H3.out.2.1.step hS5 (fun h => h)
      have hSp5 := H3.out.2.2.step hS5 (fun h => h) (fun h => h)
      have hS : w5.cell? ⟨sp, 0, none⟩ = some (.pointer (some ⟨rp, 0, none⟩)) := hSp5.c0.1
      have H5 := Lib.hid (And.intro (H3.out.1.trans hS5) (And.intro hM5 hSp5))
      clear hS5 hM5 hSp5 H3 HPl
      refine hK _ _ hS ?_; clear hK K
      (try simp only [Act.put, List.setIfInBounds_toArray, List.set_cons_succ, List.set_cons_zero])
      refine wpE_only (i := 11) (oi := { dst := some 40, op := Go.Op.call { callee := Go.Callee.value (Go.Operand.func 29), args := #[Go.Operand.tmp 33, Go.Operand.tmp 39, Go.Operand.const (Go.Value.int Go.IntKind.i64 1)], argTypes := #[24, 30, 3] }, type := 48, pos := "stage.go:276", after := #[{ on := 4, ground := Go.Ground.data }, { on := 10, ground := Go.Ground.data }, { on := 10, ground := Go.Ground.chain }], guard := none }) rfl (by kernel_rfl) (by rfl) (fun K hK => ?_)
      go_simp
      have hV := ram_Read H5.out.2.1 (pa : Int) 1 (by omega) (by have := hn; omega) (by omega) (by omega)
      rw [rd1 hpab, HPA.out] at hV
      refine hV.mono ?_; rintro e w6 ⟨rfl, kk, rfl⟩
      have hS6 : Step (fun _ => False) own w5 own (w5.drewN kk) := ⟨(Upd.refl _ _).drewN _, fun _ _ => rfl⟩
      have hS := (H5.out.2.2.step hS6 (fun h => h) (fun h => h)).c0.1
      have H6 := Lib.hid (H5.out.1.trans hS6)
      clear hV hS6 H5
      refine hK _ _ hS ?_; clear hK K
      (try simp only [Act.put, List.setIfInBounds_toArray, List.set_cons_succ, List.set_cons_zero])
      refine wpE_take (i := 12) (oi := { dst := some 28, op := Go.Op.move (Go.Operand.tmp 40), type := 48, pos := "stage.go:276", after := #[{ on := 11, ground := Go.Ground.data }], guard := none }) (v := ?_) rfl (by kernel_rfl) (fun _ _ _ h => h) (Or.inl ⟨by rfl, fun W hW => ?_⟩) hS ?_
      rotate_left
      · (have hw1 : W.cell? ⟨sp, 0, none⟩ = some (.pointer (some ⟨rp, 0, none⟩)) := hW); go_simp; (try go_bits); (try rw [if_pos (by omega)]); (try with_reducible rfl)
      (try simp only [Act.put, List.setIfInBounds_toArray, List.set_cons_succ, List.set_cons_zero])
      refine wpE_take (i := 13) (oi := { dst := some 41, op := Go.Op.extract (Go.Operand.tmp 28) 0, type := 30, pos := "stage.go:276", after := #[{ on := 12, ground := Go.Ground.data }], guard := none }) (v := ?_) rfl (by kernel_rfl) (fun _ _ _ h => h) (Or.inl ⟨by rfl, fun W hW => ?_⟩) hS ?_
      rotate_left
      · (have hw1 : W.cell? ⟨sp, 0, none⟩ = some (.pointer (some ⟨rp, 0, none⟩)) := hW); go_simp; (try go_bits); (try rw [if_pos (by omega)]); (try with_reducible rfl)
      (try simp only [Act.put, List.setIfInBounds_toArray, List.set_cons_succ, List.set_cons_zero])
      refine wpE_take (i := 14) (oi := { dst := some 42, op := Go.Op.extract (Go.Operand.tmp 28) 1, type := 4, pos := "stage.go:276", after := #[{ on := 12, ground := Go.Ground.data }, { on := 15, ground := Go.Ground.gcOnly Go.Departure.lateStores }], guard := none }) (v := ?_) rfl (by kernel_rfl) (fun _ _ _ h => h) (Or.inl ⟨by rfl, fun W hW => ?_⟩) hS ?_
      rotate_left
      · (have hw1 : W.cell? ⟨sp, 0, none⟩ = some (.pointer (some ⟨rp, 0, none⟩)) := hW); go_simp; (try go_bits); (try rw [if_pos (by omega)]); (try with_reducible rfl)
      (try simp only [Act.put, List.setIfInBounds_toArray, List.set_cons_succ, List.set_cons_zero])
      refine wpE_only (i := 15) (oi := { dst := some 10, op := Go.Op.assign (Go.Operand.tmp 41), type := 30, pos := "stage.go:276", after := #[{ on := 13, ground := Go.Ground.data }, { on := 11, ground := Go.Ground.chain }, { on := 0, ground := Go.Ground.phase }, { on := 1, ground := Go.Ground.phase }, { on := 2, ground := Go.Ground.phase }, { on := 3, ground := Go.Ground.phase }, { on := 4, ground := Go.Ground.phase }, { on := 5, ground := Go.Ground.phase }, { on := 6, ground := Go.Ground.phase }, { on := 7, ground := Go.Ground.phase }, { on := 8, ground := Go.Ground.phase }, { on := 9, ground := Go.Ground.phase }, { on := 10, ground := Go.Ground.phase }, { on := 11, ground := Go.Ground.phase }, { on := 12, ground := Go.Ground.phase }, { on := 13, ground := Go.Ground.phase }, { on := 14, ground := Go.Ground.textOnly Go.Departure.lateStores }], guard := none }) rfl (by kernel_rfl) (by rfl) (fun K hK => ?_)
      go_simp; (try go_bits); refine hK _ _ hS ?_; clear hK K
      (try simp only [Act.put, List.setIfInBounds_toArray, List.set_cons_succ, List.set_cons_zero])
      refine wpE_last (oi := { dst := some 11, op := Go.Op.assign (Go.Operand.tmp 42), type := 4, pos := "stage.go:276", after := #[{ on := 14, ground := Go.Ground.data }, { on := 15, ground := Go.Ground.chain }, { on := 0, ground := Go.Ground.phase }, { on := 1, ground := Go.Ground.phase }, { on := 2, ground := Go.Ground.phase }, { on := 3, ground := Go.Ground.phase }, { on := 4, ground := Go.Ground.phase }, { on := 5, ground := Go.Ground.phase }, { on := 6, ground := Go.Ground.phase }, { on := 7, ground := Go.Ground.phase }, { on := 8, ground := Go.Ground.phase }, { on := 9, ground := Go.Ground.phase }, { on := 10, ground := Go.Ground.phase }, { on := 11, ground := Go.Ground.phase }, { on := 12, ground := Go.Ground.phase }, { on := 13, ground := Go.Ground.phase }, { on := 14, ground := Go.Ground.phase }, { on := 15, ground := Go.Ground.phase }], guard := none }) rfl (by kernel_rfl) (by kernel_rfl) (by rfl) (fun K hK => ?_)
      go_simp; (try go_bits); refine hK _ _ ?_; clear hK K
      go_wp2
      exact ⟨⟨j, by omega, by go_num, by rw [HNX.out]; (try rw [hsh]); (try rw [hsh2]); (try rw [hor]), H6.out⟩, by simp [intOf]⟩
end
end Go.Proofs.Ytpodeclkgcgpgaa
