import Derived.Test.YtpodeclkgcgpgaaSt3
import Derived.Test.YtpodeclkgcgpgaaSh
/- A guest's space: Protect, Write where it is not let. -/
namespace Go.Proofs.Ytpodeclkgcgpgaa
set_option linter.unusedVariables false
set_option linter.unusedSimpArgs false
open Go.RowKit
set_option maxRecDepth 100000

theorem goodPerm_zero (w : World) : Calls Try.prog 93 #[.int .i64 0] w fun e w' => e = .returned (.bool false) ∧ w = w' := by
  go_enter Try.func93, Try.ntmps93
  go_wp2
  go_ret
  exact ⟨rfl, rfl⟩
section
variable {own : Nat → Nat} {rp sp pp n : Nat} {res harts vmid : Int} {ts : List Int} {s : PSt} {w : World}
theorem sp_Protect_bad (page : Nat) (hp : page < 134217728) (w : World) :
    Calls Try.prog 55 #[.pointer (some ⟨sp, 0, none⟩), .int .u64 (page : Int), .int .i64 0] w fun e w' => e = .returned (.int .i64 1) ∧ w = w' := by
  have hge : decide ((134217728 : Int) ≤ (page : Int)) = false := by simp; omega
  go_enter Try.func55, Try.ntmps55
  go_wp2_with fail
  refine (goodPerm_zero w).mono ?_; rintro e wz ⟨rfl, rfl⟩
  go_wp2
  go_ret
  exact ⟨rfl, rfl⟩
theorem sp_Protect_no {t0 page : Nat} {p : Int} (h : GS own w sp rp pp vmid n res harts s ((t0 : Int) :: ts)) (hp : page < 134217728) (hpm : permOk p)
    (hd : DnOk n s.m t0 page) (hnf : (fndP s.m t0 page).2.2.2 = false) :
    Calls Try.prog 55 #[.pointer (some ⟨sp, 0, none⟩), .int .u64 (page : Int), .int .i64 p] w fun e w' => e = .returned (.int .i64 21) ∧ Step (fun _ => False) own w own w' := by
  have hge : decide ((134217728 : Int) ≤ (page : Int)) = false := by simp; omega
  have HGp := Lib.hid (st_goodPerm p hpm)
  have hF := sp_Find h.1.2 h.2 hd hp
  rw [hnf] at hF
  have HF := Lib.hid hF
  clear hF h hd hnf hpm hp
  go_enter Try.func55, Try.ntmps55
  go_wp2_with fail
  refine (HGp.out _).mono ?_; rintro e wz ⟨rfl, rfl⟩
  generalize (fndP s.m t0 page).1 = q1 at *
  generalize (fndP s.m t0 page).2.1 = q2 at *
  generalize (fndP s.m t0 page).2.2.1 = q3 at *
  go_wp2_with fail
  refine HF.out.mono ?_; rintro e w2 ⟨rfl, hS2⟩
  have H2 := Lib.hid (hS2.trans (step_alloc own w2 (.cells #[.int .u64 q1, .int .i64 q2, .int .i64 q3] 85)))
  clear hS2 HF
  go_wp2
  go_ret
  exact ⟨rfl, H2.out⟩
set_option maxHeartbeats 2000000 in
theorem sp_Protect_ok {t0 page fr : Nat} {p pm : Int} (h : GS own w sp rp pp vmid n res harts s ((t0 : Int) :: ts)) (hpm : permOk p) (hP : PgOk n s.m t0 page fr pm) (hdn : (dnP s.m t0 page).2 = 0) (hT : (dnP s.m t0 page).1 < n) :
    Calls Try.prog 55 #[.pointer (some ⟨sp, 0, none⟩), .int .u64 (page : Int), .int .i64 p] w fun e w' => e = .returned (.int .i64 0) ∧ ∃ own', Step CS own w own' w' ∧ GS own' w' sp rp pp vmid n res harts ⟨s.ow, s.bt, enS s.m (dnP s.m t0 page).1 (page % 512) (((fr * 1024 + 209 : Nat) : Int) + p), s.cnt⟩ ((t0 : Int) :: ts) := by
  have hp := hP.hp
  have hn := h.1.2.sizes.2.2
  have hfr := hP.lt
  have hge : decide ((134217728 : Int) ≤ (page : Int)) = false := by simp; omega
  have HGp := Lib.hid (st_goodPerm p hpm)
  have HF := Lib.hid (sp_FindE h.1.2 h.2 hP (page : Int) rfl)
  have HG := Lib.hid h
  have HP := Lib.hid (And.intro hP.dn (And.intro hp hdn))
  have HLO := Lib.hid (leaf_or fr (by omega) p hpm)
  have HFr := Lib.hid (And.intro hfr hn)
  have H511 := Lib.hid (and511 page (by omega))
  have hcc : page % 512 < 512 := Nat.mod_lt _ (by omega)
  have HPB := Lib.hid (show 0 ≤ p ∧ p ≤ 14 by rcases hpm with rfl | rfl | rfl | rfl | rfl <;> omega)
  have HTn := Lib.hid hT
  clear h hpm hP hdn hp hn hfr hT
  go_enter Try.func55, Try.ntmps55
  go_wp2_with fail
  refine (HGp.out _).mono ?_; rintro e wz ⟨rfl, rfl⟩
  go_wp2_with fail
  refine HF.out.mono ?_; rintro e w2 ⟨rfl, hS2⟩
  have hst := (hS2.trans (step_alloc own w2 (.cells #[.int .u64 (page : Int), .int .i64 (fr : Int), .int .i64 pm] 85)))
  have hB : Blk (w2.alloc (.cells #[.int .u64 (page : Int), .int .i64 (fr : Int), .int .i64 pm] 85)) w2.heap.size 85 #[.int .u64 (page : Int), .int .i64 (fr : Int), .int .i64 pm] := Blk.new w2 _ _
  have H2 := Lib.hid (And.intro hst (And.intro (HG.out.step hst (by simp)) hB))
  have HD := Lib.hid (sp_down H2.out.2.1.1.2 H2.out.2.1.2 HP.out.1 HP.out.2.1)
  clear hS2 hst hB HF HG
  go_wp2_with fail
  generalize w2.heap.size = vb at *
  refine HD.out.mono ?_; rintro e w3 ⟨rfl, hS3⟩
  have hstd : Step (fun _ => False) own w3 own w3.drew := (Step.refl _ _ _).drew
  have hG4 := H2.out.2.1.step (hS3.trans hstd) (by simp)
  have hB4 : Blk w3.drew vb 85 #[.int .u64 (page : Int), .int .i64 (fr : Int), .int .i64 pm] := (H2.out.2.2.upd hS3.upd (fun h => h)).drew
  have H4 := Lib.hid (And.intro (H2.out.1.trans (hS3.trans hstd)) (And.intro hG4 hB4))
  have c0 := hG4.2.c0.1
  have c1 := hB4.cell 1
  simp only [List.getElem?_toArray, List.getElem?_cons_zero, List.getElem?_cons_succ] at c1
  clear hS3 hstd hG4 H2 HD
  have HNu := Lib.hid (view_number H4.out.2.1.1.2 fr (by have := HFr.out; omega))
  have HOR := Lib.hid (And.intro (shl10 fr (by have := HFr.out; omega)) (shl10' fr (by have := HFr.out; omega)))
  obtain ⟨T, hTe⟩ : ∃ T, (dnP s.m t0 page).1 = T := ⟨_, rfl⟩
  rw [hTe] at HTn
  rw [hTe]
  have HTE := Lib.hid hTe
  rw [HP.out.2.2]
  clear hTe
  go_wp2_with fail
  refine wpE_region (S := fun (W' : World) => W'.cell? ⟨sp, 0, none⟩ = some (.pointer (some ⟨rp, 0, none⟩)) ∧ Blk W' vb 85 #[.int .u64 (page : Int), .int .i64 (fr : Int), .int .i64 pm]) (s := 19) (by kernel_rfl) ?_
  have hS : (fun (W' : World) => W'.cell? ⟨sp, 0, none⟩ = some (.pointer (some ⟨rp, 0, none⟩)) ∧ Blk W' vb 85 #[.int .u64 (page : Int), .int .i64 (fr : Int), .int .i64 pm]) _ := ⟨c0, hB4⟩
  refine wpE_take (i := 0) (oi := { dst := some 32, op := Go.Op.move (Go.Operand.tmp 0), type := 59, pos := "stage.go:192", after := #[], guard := none }) (v := ?_) rfl (by kernel_rfl) (fun _ _ _ h => h) (Or.inl ⟨by rfl, fun W hW => ?_⟩) hS ?_
  rotate_left
  · (obtain ⟨hw1, hw2⟩ := hW; have hw3 := hw2.cell 1; simp only [List.getElem?_toArray, List.getElem?_cons_zero, List.getElem?_cons_succ] at hw3); go_simp; (try go_bits); (try rw [if_pos (by omega)]); (try with_reducible rfl)
  (try simp only [Act.put, List.setIfInBounds_toArray, List.set_cons_succ, List.set_cons_zero])
  refine wpE_take (i := 1) (oi := { dst := some 33, op := Go.Op.nilCheck (Go.Operand.tmp 32), type := 0, pos := "stage.go:192", after := #[{ on := 0, ground := Go.Ground.data }], guard := none }) (v := ?_) rfl (by kernel_rfl) (fun _ _ _ h => h) (Or.inl ⟨by rfl, fun W hW => ?_⟩) hS ?_
  rotate_left
  · (obtain ⟨hw1, hw2⟩ := hW; have hw3 := hw2.cell 1; simp only [List.getElem?_toArray, List.getElem?_cons_zero, List.getElem?_cons_succ] at hw3); go_simp; (try go_bits); (try rw [if_pos (by omega)]); (try with_reducible rfl)
  (try simp only [Act.put, List.setIfInBounds_toArray, List.set_cons_succ, List.set_cons_zero])
  refine wpE_take (i := 2) (oi := { dst := some 34, op := Go.Op.fieldAddr 181 (Go.Operand.tmp 33) 0, type := 0, pos := "stage.go:192", after := #[{ on := 1, ground := Go.Ground.data }], guard := none }) (v := ?_) rfl (by kernel_rfl) (fun _ _ _ h => h) (Or.inl ⟨by rfl, fun W hW => ?_⟩) hS ?_
  rotate_left
  · (obtain ⟨hw1, hw2⟩ := hW; have hw3 := hw2.cell 1; simp only [List.getElem?_toArray, List.getElem?_cons_zero, List.getElem?_cons_succ] at hw3); go_simp; (try go_bits); (try rw [if_pos (by omega)]); (try with_reducible rfl)
  (try simp only [Act.put, List.setIfInBounds_toArray, List.set_cons_succ, List.set_cons_zero])
  refine wpE_take (i := 3) (oi := { dst := some 35, op := Go.Op.load 179 (Go.Operand.tmp 34), type := 179, pos := "stage.go:192", after := #[{ on := 2, ground := Go.Ground.data }], guard := none }) (v := viewV rp) rfl (by kernel_rfl) (fun _ _ _ h => h) (Or.inl ⟨by rfl, fun W hW => ?_⟩) hS ?_
  · (obtain ⟨hw1, hw2⟩ := hW; have hw3 := hw2.cell 1; simp only [List.getElem?_toArray, List.getElem?_cons_zero, List.getElem?_cons_succ] at hw3); go_simp; (try go_bits); (try rw [if_pos (by omega)]); (try with_reducible rfl)
  (try simp only [Act.put, List.setIfInBounds_toArray, List.set_cons_succ, List.set_cons_zero])
  refine wpE_take (i := 4) (oi := { dst := some 36, op := Go.Op.move (Go.Operand.tmp 9), type := 3, pos := "stage.go:192", after := #[], guard := none }) (v := ?_) rfl (by kernel_rfl) (fun _ _ _ h => h) (Or.inl ⟨by rfl, fun W hW => ?_⟩) hS ?_
  rotate_left
  · (obtain ⟨hw1, hw2⟩ := hW; have hw3 := hw2.cell 1; simp only [List.getElem?_toArray, List.getElem?_cons_zero, List.getElem?_cons_succ] at hw3); go_simp; (try go_bits); (try rw [if_pos (by omega)]); (try with_reducible rfl)
  (try simp only [Act.put, List.setIfInBounds_toArray, List.set_cons_succ, List.set_cons_zero])
  refine wpE_take (i := 5) (oi := { dst := some 37, op := Go.Op.move (Go.Operand.tmp 1), type := 30, pos := "stage.go:192", after := #[], guard := none }) (v := ?_) rfl (by kernel_rfl) (fun _ _ _ h => h) (Or.inl ⟨by rfl, fun W hW => ?_⟩) hS ?_
  rotate_left
  · (obtain ⟨hw1, hw2⟩ := hW; have hw3 := hw2.cell 1; simp only [List.getElem?_toArray, List.getElem?_cons_zero, List.getElem?_cons_succ] at hw3); go_simp; (try go_bits); (try rw [if_pos (by omega)]); (try with_reducible rfl)
  (try simp only [Act.put, List.setIfInBounds_toArray, List.set_cons_succ, List.set_cons_zero])
  refine wpE_take (i := 6) (oi := { dst := some 38, op := Go.Op.binOp Go.BinOp.and 30 (Go.Operand.tmp 37) (Go.Operand.const (Go.Value.int Go.IntKind.u64 511)) 30, type := 30, pos := "stage.go:192", after := #[{ on := 5, ground := Go.Ground.data }], guard := none }) (v := .int .u64 ((page % 512 : Nat) : Int)) rfl (by kernel_rfl) (fun _ _ _ h => h) (Or.inl ⟨by rfl, fun W hW => ?_⟩) hS ?_
  · (obtain ⟨hw1, hw2⟩ := hW; have hw3 := hw2.cell 1; simp only [List.getElem?_toArray, List.getElem?_cons_zero, List.getElem?_cons_succ] at hw3); go_simp; (try rw [H511.out]); (try omega)
  (try simp only [Act.put, List.setIfInBounds_toArray, List.set_cons_succ, List.set_cons_zero])
  refine wpE_take (i := 7) (oi := { dst := some 39, op := Go.Op.move (Go.Operand.tmp 0), type := 59, pos := "stage.go:192", after := #[], guard := none }) (v := ?_) rfl (by kernel_rfl) (fun _ _ _ h => h) (Or.inl ⟨by rfl, fun W hW => ?_⟩) hS ?_
  rotate_left
  · (obtain ⟨hw1, hw2⟩ := hW; have hw3 := hw2.cell 1; simp only [List.getElem?_toArray, List.getElem?_cons_zero, List.getElem?_cons_succ] at hw3); go_simp; (try go_bits); (try rw [if_pos (by omega)]); (try with_reducible rfl)
  (try simp only [Act.put, List.setIfInBounds_toArray, List.set_cons_succ, List.set_cons_zero])
  refine wpE_take (i := 8) (oi := { dst := some 40, op := Go.Op.nilCheck (Go.Operand.tmp 39), type := 0, pos := "stage.go:192", after := #[{ on := 7, ground := Go.Ground.data }], guard := none }) (v := ?_) rfl (by kernel_rfl) (fun _ _ _ h => h) (Or.inl ⟨by rfl, fun W hW => ?_⟩) hS ?_
  rotate_left
  · (obtain ⟨hw1, hw2⟩ := hW; have hw3 := hw2.cell 1; simp only [List.getElem?_toArray, List.getElem?_cons_zero, List.getElem?_cons_succ] at hw3); go_simp; (try go_bits); (try rw [if_pos (by omega)]); (try with_reducible rfl)
  (try simp only [Act.put, List.setIfInBounds_toArray, List.set_cons_succ, List.set_cons_zero])
  refine wpE_take (i := 9) (oi := { dst := some 41, op := Go.Op.fieldAddr 181 (Go.Operand.tmp 40) 0, type := 0, pos := "stage.go:192", after := #[{ on := 8, ground := Go.Ground.data }], guard := none }) (v := ?_) rfl (by kernel_rfl) (fun _ _ _ h => h) (Or.inl ⟨by rfl, fun W hW => ?_⟩) hS ?_
  rotate_left
  · (obtain ⟨hw1, hw2⟩ := hW; have hw3 := hw2.cell 1; simp only [List.getElem?_toArray, List.getElem?_cons_zero, List.getElem?_cons_succ] at hw3); go_simp; (try go_bits); (try rw [if_pos (by omega)]); (try with_reducible rfl)
  (try simp only [Act.put, List.setIfInBounds_toArray, List.set_cons_succ, List.set_cons_zero])
  refine wpE_take (i := 10) (oi := { dst := some 42, op := Go.Op.load 179 (Go.Operand.tmp 41), type := 179, pos := "stage.go:192", after := #[{ on := 9, ground := Go.Ground.data }], guard := none }) (v := viewV rp) rfl (by kernel_rfl) (fun _ _ _ h => h) (Or.inl ⟨by rfl, fun W hW => ?_⟩) hS ?_
  · (obtain ⟨hw1, hw2⟩ := hW; have hw3 := hw2.cell 1; simp only [List.getElem?_toArray, List.getElem?_cons_zero, List.getElem?_cons_succ] at hw3); go_simp; (try go_bits); (try rw [if_pos (by omega)]); (try with_reducible rfl)
  (try simp only [Act.put, List.setIfInBounds_toArray, List.set_cons_succ, List.set_cons_zero])
  refine wpE_take (i := 11) (oi := { dst := some 43, op := Go.Op.fieldAddr 85 (Go.Operand.tmp 7) 1, type := 0, pos := "stage.go:192", after := #[], guard := none }) (v := ?_) rfl (by kernel_rfl) (fun _ _ _ h => h) (Or.inl ⟨by rfl, fun W hW => ?_⟩) hS ?_
  rotate_left
  · (obtain ⟨hw1, hw2⟩ := hW; have hw3 := hw2.cell 1; simp only [List.getElem?_toArray, List.getElem?_cons_zero, List.getElem?_cons_succ] at hw3); go_simp; (try go_bits); (try rw [if_pos (by omega)]); (try with_reducible rfl)
  (try simp only [Act.put, List.setIfInBounds_toArray, List.set_cons_succ, List.set_cons_zero])
  refine wpE_take (i := 12) (oi := { dst := some 44, op := Go.Op.load 3 (Go.Operand.tmp 43), type := 3, pos := "stage.go:192", after := #[{ on := 11, ground := Go.Ground.data }], guard := none }) (v := ?_) rfl (by kernel_rfl) (fun _ _ _ h => h) (Or.inl ⟨by rfl, fun W hW => ?_⟩) hS ?_
  rotate_left
  · (obtain ⟨hw1, hw2⟩ := hW; have hw3 := hw2.cell 1; simp only [List.getElem?_toArray, List.getElem?_cons_zero, List.getElem?_cons_succ] at hw3); go_simp; (try go_bits); (try rw [if_pos (by omega)]); (try with_reducible rfl)
  (try simp only [Act.put, List.setIfInBounds_toArray, List.set_cons_succ, List.set_cons_zero])
  refine wpE_take (i := 16) (oi := { dst := some 48, op := Go.Op.move (Go.Operand.tmp 2), type := 3, pos := "stage.go:192", after := #[], guard := none }) (v := ?_) rfl (by kernel_rfl) (fun _ _ _ h => h) (Or.inl ⟨by rfl, fun W hW => ?_⟩) hS ?_
  rotate_left
  · (obtain ⟨hw1, hw2⟩ := hW; have hw3 := hw2.cell 1; simp only [List.getElem?_toArray, List.getElem?_cons_zero, List.getElem?_cons_succ] at hw3); go_simp; (try go_bits); (try rw [if_pos (by omega)]); (try with_reducible rfl)
  (try simp only [Act.put, List.setIfInBounds_toArray, List.set_cons_succ, List.set_cons_zero])
  refine wpE_take (i := 17) (oi := { dst := some 49, op := Go.Op.convert 3 30 (Go.Operand.tmp 48), type := 30, pos := "stage.go:192", after := #[{ on := 16, ground := Go.Ground.data }], guard := none }) (v := .int .u64 p) rfl (by kernel_rfl) (fun _ _ _ h => h) (Or.inl ⟨by rfl, fun W hW => ?_⟩) hS ?_
  · (obtain ⟨hw1, hw2⟩ := hW; have hw3 := hw2.cell 1; simp only [List.getElem?_toArray, List.getElem?_cons_zero, List.getElem?_cons_succ] at hw3); go_simp; (try rw [HLO.out.2])
  (try simp only [Act.put, List.setIfInBounds_toArray, List.set_cons_succ, List.set_cons_zero])
  refine wpE_only (i := 13) (oi := { dst := some 45, op := Go.Op.call { callee := Go.Callee.value (Go.Operand.func 97), args := #[Go.Operand.tmp 42, Go.Operand.tmp 44], argTypes := #[179, 3] }, type := 30, pos := "stage.go:192", after := #[{ on := 10, ground := Go.Ground.data }, { on := 12, ground := Go.Ground.data }], guard := none }) rfl (by kernel_rfl) (by rfl) (fun K hK => ?_)
  go_simp
  refine HNu.out.mono ?_; rintro e w5 ⟨rfl, hS5⟩
  have hG5 := H4.out.2.1.step hS5 (by simp)
  have hS : w5.cell? ⟨sp, 0, none⟩ = some (.pointer (some ⟨rp, 0, none⟩)) ∧ Blk w5 vb 85 #[.int .u64 (page : Int), .int .i64 (fr : Int), .int .i64 pm] := ⟨hG5.2.c0.1, H4.out.2.2.upd hS5.upd (fun h => h)⟩
  have H5 := Lib.hid (And.intro (H4.out.1.trans hS5) hG5)
  clear hS5 hG5 H4 HNu
  refine hK _ _ hS ?_; clear hK K
  (try simp only [Act.put, List.setIfInBounds_toArray, List.set_cons_succ, List.set_cons_zero])
  refine wpE_take (i := 14) (oi := { dst := some 46, op := Go.Op.binOp Go.BinOp.shl 30 (Go.Operand.tmp 45) (Go.Operand.const (Go.Value.int Go.IntKind.u64 10)) 64, type := 30, pos := "stage.go:192", after := #[{ on := 13, ground := Go.Ground.data }], guard := none }) (v := .int .u64 ((fr * 1024 : Nat) : Int)) rfl (by kernel_rfl) (fun _ _ _ h => h) (Or.inl ⟨by rfl, fun W hW => ?_⟩) hS ?_
  · (obtain ⟨hw1, hw2⟩ := hW; have hw3 := hw2.cell 1; simp only [List.getElem?_toArray, List.getElem?_cons_zero, List.getElem?_cons_succ] at hw3); go_simp; (try rw [HOR.out.1]); (try rw [HOR.out.2]); (try omega)
  (try simp only [Act.put, List.setIfInBounds_toArray, List.set_cons_succ, List.set_cons_zero])
  refine wpE_take (i := 15) (oi := { dst := some 47, op := Go.Op.binOp Go.BinOp.or 30 (Go.Operand.tmp 46) (Go.Operand.const (Go.Value.int Go.IntKind.u64 209)) 30, type := 30, pos := "stage.go:192", after := #[{ on := 14, ground := Go.Ground.data }], guard := none }) (v := .int .u64 (bits .or .u64 ((fr * 1024 : Nat) : Int) 209)) rfl (by kernel_rfl) (fun _ _ _ h => h) (Or.inl ⟨by rfl, fun W hW => ?_⟩) hS ?_
  · (obtain ⟨hw1, hw2⟩ := hW; have hw3 := hw2.cell 1; simp only [List.getElem?_toArray, List.getElem?_cons_zero, List.getElem?_cons_succ] at hw3); go_simp; (try rw [show ((fr : Int) * 1024) = ((fr * 1024 : Nat) : Int) from by omega])
  (try simp only [Act.put, List.setIfInBounds_toArray, List.set_cons_succ, List.set_cons_zero])
  refine wpE_take (i := 18) (oi := { dst := some 50, op := Go.Op.binOp Go.BinOp.or 30 (Go.Operand.tmp 47) (Go.Operand.tmp 49) 30, type := 30, pos := "stage.go:192", after := #[{ on := 15, ground := Go.Ground.data }, { on := 17, ground := Go.Ground.data }], guard := none }) (v := .int .u64 (((fr * 1024 + 209 : Nat) : Int) + p)) rfl (by kernel_rfl) (fun _ _ _ h => h) (Or.inl ⟨by rfl, fun W hW => ?_⟩) hS ?_
  · (obtain ⟨hw1, hw2⟩ := hW; have hw3 := hw2.cell 1; simp only [List.getElem?_toArray, List.getElem?_cons_zero, List.getElem?_cons_succ] at hw3); go_simp; (try rw [show ((fr : Int) * 1024) = ((fr * 1024 : Nat) : Int) from by omega]); (try rw [HLO.out.1]); (try omega)
  (try simp only [Act.put, List.setIfInBounds_toArray, List.set_cons_succ, List.set_cons_zero])
  refine wpE_last (oi := { dst := some 51, op := Go.Op.call { callee := Go.Callee.value (Go.Operand.func 96), args := #[Go.Operand.tmp 35, Go.Operand.tmp 36, Go.Operand.tmp 38, Go.Operand.tmp 50], argTypes := #[179, 3, 30, 30] }, type := 0, pos := "stage.go:192", after := #[{ on := 3, ground := Go.Ground.data }, { on := 4, ground := Go.Ground.data }, { on := 6, ground := Go.Ground.data }, { on := 18, ground := Go.Ground.data }, { on := 13, ground := Go.Ground.chain }], guard := none }) rfl (by kernel_rfl) (by kernel_rfl) (by rfl) (fun K hK => ?_)
  go_simp
  have hV := view_set H5.out.2.1.2 T (page % 512) HTn.out hcc (((fr * 1024 + 209 : Nat) : Int) + p) ⟨by have := HPB.out; omega, by have := HFr.out; have := HPB.out; omega⟩
  refine hV.mono ?_; rintro e w6 ⟨rfl, own6, hS6, hM6⟩
  have hP6 := H5.out.2.1.1.step hS6 (by omega)
  have hSp6 := H5.out.2.2.step hS6 (by omega) (by omega)
  have H6 := Lib.hid (And.intro ((H5.out.1.mono (C' := CS) (fun _ h => h.elim)).trans (hS6.mono (fun x h => Or.inl h))) (And.intro hP6 (And.intro hM6 hSp6)))
  clear hV hS6 hP6 hM6 hSp6 hS H5
  refine hK _ _ ?_; clear hK K
  go_wp2
  go_ret
  refine ⟨rfl, own6, H6.out.1, ⟨H6.out.2.1, ?_⟩, H6.out.2.2.2⟩
  have hm := H6.out.2.2.1
  rw [← HTE.out, show ((fr * 1024 + 209 : Nat) : Int) + p = (fr : Int) * 1024 + 209 + p from by omega] at hm
  exact hm
set_option maxHeartbeats 1000000 in
theorem sp_Write_no {t0 : Nat} {fr : Nat → Nat} {pm : Nat → Int} (addr k : Nat) (v : Int) (hk : k = 1 ∨ k = 2 ∨ k = 4 ∨ k = 8) (ha : addr + k ≤ 549755813888) (hG : GS own w sp rp pp vmid n res harts s ((t0 : Int) :: ts))
    (hst : MapOk n s.m t0 (addr / 4096) ((addr + k - 1) / 4096) fr pm) (hpm : (bits .and .i64 (pm (addr / 4096)) 4 == 0) = true) :
    Calls Try.prog 42 #[.pointer (some ⟨sp, 0, none⟩), .int .u64 (addr : Int), .int .i64 (k : Int), .int .u64 v] w fun e w' => e = .returned (.bool false) ∧ Step (fun _ => False) own w own w' := by
  have hk8 : 1 ≤ k ∧ k ≤ 8 := by omega
  have HW := Lib.hid (st_whole (k : Int) w (by omega))
  have HH := Lib.hid (sp_Has_ok addr k (by omega) ha hG.1.2 hG.2 hst)
  have HX := Lib.hid (And.intro hG (hst (addr / 4096) (Nat.le_refl _) (by omega)))
  clear hG hst hk
  generalize pm (addr / 4096) = q1 at *
  generalize fr (addr / 4096) = f1 at *
  go_enter Try.func42, Try.ntmps42
  go_wp2_with fail
  refine HW.out.mono ?_; rintro e w1 ⟨rfl, rfl⟩
  go_wp2_with fail
  refine HH.out.mono ?_; rintro e w1 ⟨rfl, hS1⟩
  have H1 := Lib.hid hS1
  clear HW HH hS1
  go_wp2
  go_loopw [24] (fun i wr => i = .int .i64 0 ∧ Hid (Step (fun _ => False) own w own wr)) (fun i _ => 0)
  case atStart => exact ⟨rfl, H1.out⟩
  case round =>
    obtain ⟨rfl, HR⟩ := hrel
    have hlt' : (0 : Int) < (k : Int) := by omega
    have HF := Lib.hid (sp_FindE (HX.out.1.1.2.step HR.out (fun h => h)) (HX.out.1.2.step HR.out (fun h => h) (fun h => h)) HX.out.2)
    have hwa : IntKind.u64.wrap (addr : Int) = (addr : Int) := IntWalk.u64_in _ (by omega)
    go_wp2_with fail
    refine (HF.out _ (by omega)).mono ?_; rintro e w2 ⟨rfl, hS2⟩
    have H2 := Lib.hid ((HR.out.trans hS2).trans (step_alloc own w2 (.cells #[.int .u64 ((addr / 4096 : Nat) : Int), .int .i64 (f1 : Int), .int .i64 q1] 85)))
    clear hS2 HF HR
    go_wp2
    go_ret
    exact ⟨rfl, H2.out⟩
end
end Go.Proofs.Ytpodeclkgcgpgaa
