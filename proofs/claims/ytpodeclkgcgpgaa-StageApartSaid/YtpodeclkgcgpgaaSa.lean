import Derived.Test.YtpodeclkgcgpgaaSt3
import Derived.Test.YtpodeclkgcgpgaaSm
/- A space's Map of a page that is there; what hardware reads where no page is. -/
namespace Go.Proofs.Ytpodeclkgcgpgaa
set_option linter.unusedVariables false
set_option linter.unusedSimpArgs false
open Go.RowKit
set_option maxRecDepth 100000

theorem TabOk.keepA {D : Nat → Prop} {n t0 page f1 f0 fr : Nat} {p : Int} {m m' : Nat → Int} (h : TabOk n m t0 page f1 f0 fr p) (hm : ∀ x, ¬ D (x / 4096) → m' x = m x) (h0 : ¬ D t0) (h1 : ¬ D f1) (h2 : ¬ D f0) : TabOk n m' t0 page f1 f0 fr p := by
  have hp := h.hp
  have e1 : lv1 m' t0 page = lv1 m t0 page := en_keep hm h0 (by omega)
  have e0 : lv0 m' t0 page = lv0 m t0 page := by
    unfold lv0; rw [e1]; exact en_keep hm (by rw [h.l1, show (f1 * 1024 + 1) / 1024 = f1 from by omega]; exact h1) (Nat.mod_lt _ (by omega))
  exact ⟨hp, h.h0, e1.trans h.l1, h.h1, e0.trans h.l0, h.h2, (en_keep hm h2 (Nat.mod_lt _ (by omega))).trans h.lf, h.pm, h.fr⟩
section
variable {own : Nat → Nat} {c rp sp pp n t0 : Nat} {vmid : Int} {ts : List Int} {m : Nat → Int} {w : World}
theorem sp_RootA (hM : MemAt ramK own c w rp 0 n m) (hS : SpAt own w sp rp pp vmid ((t0 : Int) :: ts)) (ht : t0 < n) :
    Calls Try.prog 57 #[.pointer (some ⟨sp, 0, none⟩)] w fun e w' => e = .returned (.int .u64 (t0 : Int)) ∧ Step (fun _ => False) own w own w' := by
  have hn := hM.sizes.2.2
  have hstd : Step (fun _ => False) own w own w.drew := (Step.refl _ _ _).drew
  have HN := Lib.hid (view_number (hM.step hstd (fun h => h)) t0 (by omega))
  have HSD := Lib.hid hstd
  obtain ⟨g, cap, s0, s1, s2, s3, sg, lsp, lg⟩ := hS.cells
  have hlen1 : (0 : Int) < ((ts.length + 1 : Nat) : Int) := by omega
  clear hM hS hstd s1 s2
  go_enter Try.func57, Try.ntmps57
  go_wp2_with fail
  refine wpE_region (S := fun (W' : World) => W'.cell? ⟨sp, 0, none⟩ = some (.pointer (some ⟨rp, 0, none⟩)) ∧ W'.cell? ⟨sp, 3, none⟩ = some (.slice (some ⟨g, 0, none⟩) (ts.length + 1) cap) ∧ W'.cell? ⟨g, 0, none⟩ = some (.int .i64 (t0 : Int))) (s := 11) (by kernel_rfl) ?_
  have hS : (fun (W' : World) => W'.cell? ⟨sp, 0, none⟩ = some (.pointer (some ⟨rp, 0, none⟩)) ∧ W'.cell? ⟨sp, 3, none⟩ = some (.slice (some ⟨g, 0, none⟩) (ts.length + 1) cap) ∧ W'.cell? ⟨g, 0, none⟩ = some (.int .i64 (t0 : Int))) _ := ⟨s0, s3, sg⟩
  refine wpE_take (i := 0) (oi := { dst := some 3, op := Go.Op.move (Go.Operand.tmp 0), type := 59, pos := "stage.go:113", after := #[], guard := none }) (v := ?_) rfl (by kernel_rfl) (fun _ _ _ h => h) (Or.inl ⟨by rfl, fun W hW => ?_⟩) hS ?_
  rotate_left
  · obtain ⟨hw1, hw2, hw3⟩ := hW; go_simp; (try go_bits); (try rw [if_pos (by omega)]); (try with_reducible rfl)
  (try simp only [Act.put, List.setIfInBounds_toArray, List.set_cons_succ, List.set_cons_zero])
  refine wpE_take (i := 1) (oi := { dst := some 4, op := Go.Op.nilCheck (Go.Operand.tmp 3), type := 0, pos := "stage.go:113", after := #[{ on := 0, ground := Go.Ground.data }], guard := none }) (v := ?_) rfl (by kernel_rfl) (fun _ _ _ h => h) (Or.inl ⟨by rfl, fun W hW => ?_⟩) hS ?_
  rotate_left
  · obtain ⟨hw1, hw2, hw3⟩ := hW; go_simp; (try go_bits); (try rw [if_pos (by omega)]); (try with_reducible rfl)
  (try simp only [Act.put, List.setIfInBounds_toArray, List.set_cons_succ, List.set_cons_zero])
  refine wpE_take (i := 2) (oi := { dst := some 5, op := Go.Op.fieldAddr 181 (Go.Operand.tmp 4) 0, type := 0, pos := "stage.go:113", after := #[{ on := 1, ground := Go.Ground.data }], guard := none }) (v := ?_) rfl (by kernel_rfl) (fun _ _ _ h => h) (Or.inl ⟨by rfl, fun W hW => ?_⟩) hS ?_
  rotate_left
  · obtain ⟨hw1, hw2, hw3⟩ := hW; go_simp; (try go_bits); (try rw [if_pos (by omega)]); (try with_reducible rfl)
  (try simp only [Act.put, List.setIfInBounds_toArray, List.set_cons_succ, List.set_cons_zero])
  refine wpE_take (i := 3) (oi := { dst := some 6, op := Go.Op.load 179 (Go.Operand.tmp 5), type := 179, pos := "stage.go:113", after := #[{ on := 2, ground := Go.Ground.data }], guard := none }) (v := viewV rp) rfl (by kernel_rfl) (fun _ _ _ h => h) (Or.inl ⟨by rfl, fun W hW => ?_⟩) hS ?_
  · obtain ⟨hw1, hw2, hw3⟩ := hW; go_simp; (try go_bits); (try rw [if_pos (by omega)]); (try with_reducible rfl)
  (try simp only [Act.put, List.setIfInBounds_toArray, List.set_cons_succ, List.set_cons_zero])
  refine wpE_take (i := 4) (oi := { dst := some 7, op := Go.Op.move (Go.Operand.tmp 0), type := 59, pos := "stage.go:113", after := #[], guard := none }) (v := ?_) rfl (by kernel_rfl) (fun _ _ _ h => h) (Or.inl ⟨by rfl, fun W hW => ?_⟩) hS ?_
  rotate_left
  · obtain ⟨hw1, hw2, hw3⟩ := hW; go_simp; (try go_bits); (try rw [if_pos (by omega)]); (try with_reducible rfl)
  (try simp only [Act.put, List.setIfInBounds_toArray, List.set_cons_succ, List.set_cons_zero])
  refine wpE_take (i := 5) (oi := { dst := some 8, op := Go.Op.nilCheck (Go.Operand.tmp 7), type := 0, pos := "stage.go:113", after := #[{ on := 4, ground := Go.Ground.data }], guard := none }) (v := ?_) rfl (by kernel_rfl) (fun _ _ _ h => h) (Or.inl ⟨by rfl, fun W hW => ?_⟩) hS ?_
  rotate_left
  · obtain ⟨hw1, hw2, hw3⟩ := hW; go_simp; (try go_bits); (try rw [if_pos (by omega)]); (try with_reducible rfl)
  (try simp only [Act.put, List.setIfInBounds_toArray, List.set_cons_succ, List.set_cons_zero])
  refine wpE_take (i := 6) (oi := { dst := some 9, op := Go.Op.fieldAddr 181 (Go.Operand.tmp 8) 3, type := 0, pos := "stage.go:113", after := #[{ on := 5, ground := Go.Ground.data }], guard := none }) (v := ?_) rfl (by kernel_rfl) (fun _ _ _ h => h) (Or.inl ⟨by rfl, fun W hW => ?_⟩) hS ?_
  rotate_left
  · obtain ⟨hw1, hw2, hw3⟩ := hW; go_simp; (try go_bits); (try rw [if_pos (by omega)]); (try with_reducible rfl)
  (try simp only [Act.put, List.setIfInBounds_toArray, List.set_cons_succ, List.set_cons_zero])
  refine wpE_take (i := 7) (oi := { dst := some 10, op := Go.Op.load 45 (Go.Operand.tmp 9), type := 45, pos := "stage.go:113", after := #[{ on := 6, ground := Go.Ground.data }], guard := none }) (v := ?_) rfl (by kernel_rfl) (fun _ _ _ h => h) (Or.inl ⟨by rfl, fun W hW => ?_⟩) hS ?_
  rotate_left
  · obtain ⟨hw1, hw2, hw3⟩ := hW; go_simp; (try go_bits); (try rw [if_pos (by omega)]); (try with_reducible rfl)
  (try simp only [Act.put, List.setIfInBounds_toArray, List.set_cons_succ, List.set_cons_zero])
  refine wpE_take (i := 8) (oi := { dst := some 11, op := Go.Op.indexAddr 45 (Go.Operand.tmp 10) (Go.Operand.const (Go.Value.int Go.IntKind.i64 0)), type := 0, pos := "stage.go:113", after := #[{ on := 7, ground := Go.Ground.data }], guard := none }) (v := ?_) rfl (by kernel_rfl) (fun _ _ _ h => h) (Or.inl ⟨by rfl, fun W hW => ?_⟩) hS ?_
  rotate_left
  · obtain ⟨hw1, hw2, hw3⟩ := hW; go_simp; (try go_bits); (try rw [if_pos (by omega)]); (try with_reducible rfl)
  (try simp only [Act.put, List.setIfInBounds_toArray, List.set_cons_succ, List.set_cons_zero])
  refine wpE_take (i := 9) (oi := { dst := some 12, op := Go.Op.load 3 (Go.Operand.tmp 11), type := 3, pos := "stage.go:113", after := #[{ on := 8, ground := Go.Ground.data }], guard := none }) (v := ?_) rfl (by kernel_rfl) (fun _ _ _ h => h) (Or.inl ⟨by rfl, fun W hW => ?_⟩) hS ?_
  rotate_left
  · obtain ⟨hw1, hw2, hw3⟩ := hW; go_simp; (try go_bits); (try rw [if_pos (by omega)]); (try with_reducible rfl)
  (try simp only [Act.put, List.setIfInBounds_toArray, List.set_cons_succ, List.set_cons_zero])
  refine wpE_only (i := 10) (oi := { dst := some 13, op := Go.Op.call { callee := Go.Callee.value (Go.Operand.func 97), args := #[Go.Operand.tmp 6, Go.Operand.tmp 12], argTypes := #[179, 3] }, type := 30, pos := "stage.go:113", after := #[{ on := 3, ground := Go.Ground.data }, { on := 9, ground := Go.Ground.data }], guard := none }) rfl (by kernel_rfl) (by rfl) (fun K hK => ?_)
  go_simp
  refine HN.out.mono ?_; rintro q w2 ⟨rfl, hS2⟩
  have hS : w2.cell? ⟨sp, 0, none⟩ = some (.pointer (some ⟨rp, 0, none⟩)) ∧ w2.cell? ⟨sp, 3, none⟩ = some (.slice (some ⟨g, 0, none⟩) (ts.length + 1) cap) ∧ w2.cell? ⟨g, 0, none⟩ = some (.int .i64 (t0 : Int)) :=
  ⟨(hS2.upd.cell (p := ⟨sp, 0, none⟩) lsp (fun h => h)).trans s0, (hS2.upd.cell (p := ⟨sp, 3, none⟩) lsp (fun h => h)).trans s3, (hS2.upd.cell (p := ⟨g, 0, none⟩) lg (fun h => h)).trans sg⟩
  have H2 := Lib.hid (HSD.out.trans hS2)
  clear hS2 HN HSD
  refine hK _ _ hS ?_; clear hK K
  (try simp only [Act.put, List.setIfInBounds_toArray, List.set_cons_succ, List.set_cons_zero])
  refine wpE_last (oi := { dst := some 2, op := Go.Op.assign (Go.Operand.tmp 13), type := 30, pos := "stage.go:113", after := #[{ on := 10, ground := Go.Ground.data }, { on := 10, ground := Go.Ground.chain }, { on := 0, ground := Go.Ground.phase }, { on := 1, ground := Go.Ground.phase }, { on := 2, ground := Go.Ground.phase }, { on := 3, ground := Go.Ground.phase }, { on := 4, ground := Go.Ground.phase }, { on := 5, ground := Go.Ground.phase }, { on := 6, ground := Go.Ground.phase }, { on := 7, ground := Go.Ground.phase }, { on := 8, ground := Go.Ground.phase }, { on := 9, ground := Go.Ground.phase }, { on := 10, ground := Go.Ground.phase }], guard := none }) rfl (by kernel_rfl) (by kernel_rfl) (by rfl) (fun K hK => ?_)
  go_simp; (try go_bits); refine hK _ _ ?_; clear hK K
  go_wp2
  go_ret
  exact ⟨rfl, H2.out⟩
end
section
variable {own : Nat → Nat} {rp sp pp n : Nat} {res harts vmid : Int} {ts : List Int} {s : PSt} {w : World}
set_option maxHeartbeats 2000000 in
theorem sp_Map_dup {t0 page fr f0 : Nat} {p pm : Int} (h : GS own w sp rp pp vmid n res harts s ((t0 : Int) :: ts)) (hfr : fr < n) (hpm : permOk p) (hP : PgOk n s.m t0 page f0 pm) :
    Calls Try.prog 40 #[.pointer (some ⟨sp, 0, none⟩), .int .u64 (page : Int), .int .i64 (fr : Int), .int .i64 p] w fun e w' => e = .returned (.int .i64 20) ∧ Step (fun _ => False) own w own w' := by
  have hp := hP.hp
  obtain ⟨c0, _, lsp⟩ := h.2.c0
  have HFr := Lib.hid (ram_Frames h.1.2)
  have HGp := Lib.hid (st_goodPerm p hpm)
  have HF := Lib.hid (sp_FindE h.1.2 h.2 hP (page : Int) rfl)
  have hge : decide ((134217728 : Int) ≤ (page : Int)) = false := by simp; omega
  have hfr' : decide (n ≤ fr) = false := by simp; omega
  have hfr0 : decide ((fr : Int) < 0) = false := by simp
  clear h hp hpm hfr hP
  go_enter Try.func40, Try.ntmps40
  go_wp2_with fail
  refine HFr.out.mono ?_; rintro e w1 ⟨rfl, rfl⟩
  go_wp2_with fail
  refine (HGp.out _).mono ?_; rintro e w1 ⟨rfl, rfl⟩
  clear HFr HGp
  go_wp2_with fail
  refine HF.out.mono ?_; rintro e w2 ⟨rfl, hS2⟩
  have H2 := Lib.hid (hS2.trans (step_alloc own w2 (.cells #[.int .u64 (page : Int), .int .i64 (f0 : Int), .int .i64 pm] 85)))
  clear hS2 HF
  go_wp2
  go_ret
  exact ⟨rfl, H2.out⟩
end
section
variable {own : Nat → Nat} {c rp n : Nat} {m : Nat → Int} {w : World}
set_option maxHeartbeats 4000000 in
theorem wk_down_A {b rb t0 page a : Nat} {lf lv root : Int} (hM : MemAt ramK own c w rp 0 n m) (hc : c ≠ 7) (hR : Blk w rb 24 #[.pointer (some ⟨rp, 0, none⟩)]) (hB : SecAt w b rb lf lv root) (hob : own b = 7) (hor : own rb ≠ 7)
    (hp : page < 134217728) (ha : a / 4096 = page) (ht0 : t0 < n) (hl1 : lv1 m t0 page = 0) :
    Calls Try.prog 149 #[.pointer (some ⟨b, 0, none⟩), .int .u64 (t0 : Int), .int .u64 (a : Int)] w fun r w' => r = .returned (.int .i64 1) ∧ Step (· = 7) own w own w' ∧ ∃ lf' lv', SecAt w' b rb lf' lv' root := by
  have hn := hM.sizes.2.2
  have HI := Lib.hid (idx_at a page hp ha)
  have HS : ∀ W : World, Step (· = 7) own w own W → MemAt ramK own c W rp 0 n m ∧ Blk W rb 24 #[.pointer (some ⟨rp, 0, none⟩)] := by
    intro W hS
    exact ⟨hM.step hS hc, hR.upd hS.upd hor⟩
  have HX := Lib.hid HS
  have HE := Lib.hid (And.intro (show en m t0 (page / 262144) = 0 from hl1) trivial)
  have H0 := Lib.hid hB
  clear hM hR HS hl1 hB
  go_enter Try.func149, Try.ntmps149
  have z2 := H0.out.frozen 2
  have y2 := H0.out.cells.2.2.1
  have hlt := H0.out.lt
  go_wp2
  refine wp_scope_unroll (rest := ?rest) 0 (0 + 1 + 1) ?hf ?_
  rotate_left
  · rfl
  rotate_left
  go_wp2
  go_step3
  go_wp2_with fail
  have hst : Step (· = 7) own w own (w.setCell ⟨b, 2, none⟩ (.int .i64 2)) := ⟨(Upd.refl _ _).setCell (.inl hob) _, fun _ _ => rfl⟩
  have hBn : SecAt (w.setCell ⟨b, 2, none⟩ (.int .i64 2)) b rb lf 2 root := H0.out.set_ 2 (.int .i64 2)
  have HA1 := Lib.hid (And.intro hst hBn)
  clear hst hBn z2 y2 hlt H0
  generalize (w.setCell ⟨b, 2, none⟩ (.int .i64 2)) = wa at *
  have hstd : Step (fun _ => False) own wa own wa.drew := (Step.refl _ _ _).drew
  have hSn := HA1.out.1.trans (hstd.mono (C' := (· = 7)) (fun _ h => h.elim))
  have hBn : SecAt wa.drew b rb lf 2 root := HA1.out.2.drew
  have HB1 := Lib.hid (And.intro hSn hBn)
  clear hstd hSn HA1
  refine wpE_region (S := fun (W' : World) => SecAt W' b rb lf 2 root) (s := 19) (by kernel_rfl) ?_
  have hS : (fun (W' : World) => SecAt W' b rb lf 2 root) _ := hBn
  refine wpE_take (i := 0) (oi := { dst := some 13, op := Go.Op.move (Go.Operand.tmp 0), type := 246, pos := "stages.go:27", after := #[], guard := none }) (v := ?_) rfl (by kernel_rfl) (fun _ _ _ h => h) (Or.inl ⟨by rfl, fun W hW => ?_⟩) hS ?_
  rotate_left
  · (obtain ⟨hw1, hw2, hw3, hw4⟩ := SecAt.cells hW); go_simp; (try go_bits); (try rw [if_pos (by omega)]); (try with_reducible rfl)
  (try simp only [Act.put, List.setIfInBounds_toArray, List.set_cons_succ, List.set_cons_zero])
  refine wpE_take (i := 1) (oi := { dst := some 14, op := Go.Op.nilCheck (Go.Operand.tmp 13), type := 0, pos := "stages.go:27", after := #[{ on := 0, ground := Go.Ground.data }], guard := none }) (v := ?_) rfl (by kernel_rfl) (fun _ _ _ h => h) (Or.inl ⟨by rfl, fun W hW => ?_⟩) hS ?_
  rotate_left
  · (obtain ⟨hw1, hw2, hw3, hw4⟩ := SecAt.cells hW); go_simp; (try go_bits); (try rw [if_pos (by omega)]); (try with_reducible rfl)
  (try simp only [Act.put, List.setIfInBounds_toArray, List.set_cons_succ, List.set_cons_zero])
  refine wpE_take (i := 2) (oi := { dst := some 15, op := Go.Op.fieldAddr 202 (Go.Operand.tmp 14) 0, type := 0, pos := "stages.go:27", after := #[{ on := 1, ground := Go.Ground.data }], guard := none }) (v := ?_) rfl (by kernel_rfl) (fun _ _ _ h => h) (Or.inl ⟨by rfl, fun W hW => ?_⟩) hS ?_
  rotate_left
  · (obtain ⟨hw1, hw2, hw3, hw4⟩ := SecAt.cells hW); go_simp; (try go_bits); (try rw [if_pos (by omega)]); (try with_reducible rfl)
  (try simp only [Act.put, List.setIfInBounds_toArray, List.set_cons_succ, List.set_cons_zero])
  refine wpE_take (i := 3) (oi := { dst := some 16, op := Go.Op.load 199 (Go.Operand.tmp 15), type := 199, pos := "stages.go:27", after := #[{ on := 2, ground := Go.Ground.data }], guard := none }) (v := .func (.func 148) #[] #[.pointer (some ⟨rb, 0, none⟩)]) rfl (by kernel_rfl) (fun _ _ _ h => h) (Or.inl ⟨by rfl, fun W hW => ?_⟩) hS ?_
  · (obtain ⟨hw1, hw2, hw3, hw4⟩ := SecAt.cells hW); go_simp; (try go_bits); (try rw [if_pos (by omega)]); (try with_reducible rfl)
  (try simp only [Act.put, List.setIfInBounds_toArray, List.set_cons_succ, List.set_cons_zero])
  refine wpE_take (i := 4) (oi := { dst := some 17, op := Go.Op.move (Go.Operand.tmp 1), type := 30, pos := "stages.go:27", after := #[], guard := none }) (v := ?_) rfl (by kernel_rfl) (fun _ _ _ h => h) (Or.inl ⟨by rfl, fun W hW => ?_⟩) hS ?_
  rotate_left
  · (obtain ⟨hw1, hw2, hw3, hw4⟩ := SecAt.cells hW); go_simp; (try go_bits); (try rw [if_pos (by omega)]); (try with_reducible rfl)
  (try simp only [Act.put, List.setIfInBounds_toArray, List.set_cons_succ, List.set_cons_zero])
  refine wpE_take (i := 5) (oi := { dst := some 18, op := Go.Op.move (Go.Operand.tmp 2), type := 30, pos := "stages.go:27", after := #[], guard := none }) (v := ?_) rfl (by kernel_rfl) (fun _ _ _ h => h) (Or.inl ⟨by rfl, fun W hW => ?_⟩) hS ?_
  rotate_left
  · (obtain ⟨hw1, hw2, hw3, hw4⟩ := SecAt.cells hW); go_simp; (try go_bits); (try rw [if_pos (by omega)]); (try with_reducible rfl)
  (try simp only [Act.put, List.setIfInBounds_toArray, List.set_cons_succ, List.set_cons_zero])
  refine wpE_take (i := 6) (oi := { dst := some 19, op := Go.Op.move (Go.Operand.tmp 0), type := 246, pos := "stages.go:27", after := #[], guard := none }) (v := ?_) rfl (by kernel_rfl) (fun _ _ _ h => h) (Or.inl ⟨by rfl, fun W hW => ?_⟩) hS ?_
  rotate_left
  · (obtain ⟨hw1, hw2, hw3, hw4⟩ := SecAt.cells hW); go_simp; (try go_bits); (try rw [if_pos (by omega)]); (try with_reducible rfl)
  (try simp only [Act.put, List.setIfInBounds_toArray, List.set_cons_succ, List.set_cons_zero])
  refine wpE_take (i := 7) (oi := { dst := some 20, op := Go.Op.nilCheck (Go.Operand.tmp 19), type := 0, pos := "stages.go:27", after := #[{ on := 6, ground := Go.Ground.data }], guard := none }) (v := ?_) rfl (by kernel_rfl) (fun _ _ _ h => h) (Or.inl ⟨by rfl, fun W hW => ?_⟩) hS ?_
  rotate_left
  · (obtain ⟨hw1, hw2, hw3, hw4⟩ := SecAt.cells hW); go_simp; (try go_bits); (try rw [if_pos (by omega)]); (try with_reducible rfl)
  (try simp only [Act.put, List.setIfInBounds_toArray, List.set_cons_succ, List.set_cons_zero])
  refine wpE_take (i := 8) (oi := { dst := some 21, op := Go.Op.fieldAddr 202 (Go.Operand.tmp 20) 2, type := 0, pos := "stages.go:27", after := #[{ on := 7, ground := Go.Ground.data }], guard := none }) (v := ?_) rfl (by kernel_rfl) (fun _ _ _ h => h) (Or.inl ⟨by rfl, fun W hW => ?_⟩) hS ?_
  rotate_left
  · (obtain ⟨hw1, hw2, hw3, hw4⟩ := SecAt.cells hW); go_simp; (try go_bits); (try rw [if_pos (by omega)]); (try with_reducible rfl)
  (try simp only [Act.put, List.setIfInBounds_toArray, List.set_cons_succ, List.set_cons_zero])
  refine wpE_take (i := 9) (oi := { dst := some 22, op := Go.Op.load 3 (Go.Operand.tmp 21), type := 3, pos := "stages.go:27", after := #[{ on := 8, ground := Go.Ground.data }], guard := none }) (v := .int .i64 2) rfl (by kernel_rfl) (fun _ _ _ h => h) (Or.inl ⟨by rfl, fun W hW => ?_⟩) hS ?_
  · (obtain ⟨hw1, hw2, hw3, hw4⟩ := SecAt.cells hW); go_simp; (try go_bits); (try rw [if_pos (by omega)]); (try with_reducible rfl)
  (try simp only [Act.put, List.setIfInBounds_toArray, List.set_cons_succ, List.set_cons_zero])
  refine wpE_take (i := 10) (oi := { dst := some 23, op := Go.Op.binOp Go.BinOp.mul 3 (Go.Operand.const (Go.Value.int Go.IntKind.i64 9)) (Go.Operand.tmp 22) 3, type := 3, pos := "stages.go:27", after := #[{ on := 9, ground := Go.Ground.data }], guard := none }) (v := ?_) rfl (by kernel_rfl) (fun _ _ _ h => h) (Or.inl ⟨by rfl, fun W hW => ?_⟩) hS ?_
  rotate_left
  · (obtain ⟨hw1, hw2, hw3, hw4⟩ := SecAt.cells hW); go_simp; (try go_bits); (try rw [if_pos (by omega)]); (try with_reducible rfl)
  (try simp only [Act.put, List.setIfInBounds_toArray, List.set_cons_succ, List.set_cons_zero])
  refine wpE_take (i := 11) (oi := { dst := some 24, op := Go.Op.binOp Go.BinOp.add 3 (Go.Operand.const (Go.Value.int Go.IntKind.i64 12)) (Go.Operand.tmp 23) 3, type := 3, pos := "stages.go:27", after := #[{ on := 10, ground := Go.Ground.data }], guard := none }) (v := ?_) rfl (by kernel_rfl) (fun _ _ _ h => h) (Or.inl ⟨by rfl, fun W hW => ?_⟩) hS ?_
  rotate_left
  · (obtain ⟨hw1, hw2, hw3, hw4⟩ := SecAt.cells hW); go_simp; (try go_bits); (try rw [if_pos (by omega)]); (try with_reducible rfl)
  (try simp only [Act.put, List.setIfInBounds_toArray, List.set_cons_succ, List.set_cons_zero])
  refine wpE_take (i := 12) (oi := { dst := some 25, op := Go.Op.binOp Go.BinOp.shr 30 (Go.Operand.tmp 18) (Go.Operand.tmp 24) 3, type := 30, pos := "stages.go:27", after := #[{ on := 5, ground := Go.Ground.data }, { on := 11, ground := Go.Ground.data }], guard := none }) (v := .int .u64 ((a / 1073741824 : Nat) : Int)) rfl (by kernel_rfl) (fun _ _ _ h => h) (Or.inl ⟨by rfl, fun W hW => ?_⟩) hS ?_
  · (obtain ⟨hw1, hw2, hw3, hw4⟩ := SecAt.cells hW); go_simp; (try omega); (try trivial)
  (try simp only [Act.put, List.setIfInBounds_toArray, List.set_cons_succ, List.set_cons_zero])
  refine wpE_take (i := 13) (oi := { dst := some 26, op := Go.Op.binOp Go.BinOp.and 30 (Go.Operand.tmp 25) (Go.Operand.const (Go.Value.int Go.IntKind.u64 511)) 30, type := 30, pos := "stages.go:27", after := #[{ on := 12, ground := Go.Ground.data }], guard := none }) (v := .int .u64 ((page / 262144 : Nat) : Int)) rfl (by kernel_rfl) (fun _ _ _ h => h) (Or.inl ⟨by rfl, fun W hW => ?_⟩) hS ?_
  · (obtain ⟨hw1, hw2, hw3, hw4⟩ := SecAt.cells hW); go_simp; (try rw [show ((a : Int) / 1073741824) = ((a / 1073741824 : Nat) : Int) from by omega]); (try rw [HI.out.1]); (try omega)
  (try simp only [Act.put, List.setIfInBounds_toArray, List.set_cons_succ, List.set_cons_zero])
  refine wpE_only (i := 14) (oi := { dst := some 27, op := Go.Op.call { callee := Go.Callee.value (Go.Operand.tmp 16), args := #[Go.Operand.tmp 17, Go.Operand.tmp 26], argTypes := #[30, 30] }, type := 247, pos := "stages.go:27", after := #[{ on := 3, ground := Go.Ground.data }, { on := 4, ground := Go.Ground.data }, { on := 13, ground := Go.Ground.data }], guard := none }) rfl (by kernel_rfl) (by rfl) (fun K hK => ?_)
  go_simp
  (try rw [show ((page : Int) / 262144) = ((page / 262144 : Nat) : Int) from by omega])
  (try rw [show ((page : Int) / 512 % 512) = ((page / 512 % 512 : Nat) : Int) from by omega])
  (try rw [show ((page : Int) % 512) = ((page % 512 : Nat) : Int) from by omega])
  have hE := page_entry1 (HX.out _ HB1.out.1).1 rb (HX.out _ HB1.out.1).2 t0 (page / 262144) (by omega) (by omega)
  rw [HE.out.1] at hE
  refine hE.mono ?_; rintro r wb ⟨rfl, hUB⟩
  have hSB : Step (fun _ => False) own _ own wb := ⟨hUB, fun _ _ => rfl⟩
  have hSn := HB1.out.1.trans (hSB.mono (C' := (· = 7)) (fun _ h => h.elim))
  have hS : SecAt wb b rb lf 2 root := hBn.upd hUB (fun h => h)
  have HC1 := Lib.hid (And.intro hSn hS)
  clear hE hUB hSB hSn hBn HB1
  refine hK _ _ hS ?_; clear hK K
  (try simp only [Act.put, List.setIfInBounds_toArray, List.set_cons_succ, List.set_cons_zero])
  refine wpE_take (i := 15) (oi := { dst := some 12, op := Go.Op.move (Go.Operand.tmp 27), type := 247, pos := "stages.go:27", after := #[{ on := 14, ground := Go.Ground.data }], guard := none }) (v := ?_) rfl (by kernel_rfl) (fun _ _ _ h => h) (Or.inl ⟨by rfl, fun W hW => ?_⟩) hS ?_
  rotate_left
  · (obtain ⟨hw1, hw2, hw3, hw4⟩ := SecAt.cells hW); go_simp; (try go_bits); (try rw [if_pos (by omega)]); (try with_reducible rfl)
  (try simp only [Act.put, List.setIfInBounds_toArray, List.set_cons_succ, List.set_cons_zero])
  refine wpE_take (i := 16) (oi := { dst := some 28, op := Go.Op.extract (Go.Operand.tmp 12) 0, type := 30, pos := "stages.go:27", after := #[{ on := 15, ground := Go.Ground.data }], guard := none }) (v := ?_) rfl (by kernel_rfl) (fun _ _ _ h => h) (Or.inl ⟨by rfl, fun W hW => ?_⟩) hS ?_
  rotate_left
  · (obtain ⟨hw1, hw2, hw3, hw4⟩ := SecAt.cells hW); go_simp; (try go_bits); (try rw [if_pos (by omega)]); (try with_reducible rfl)
  (try simp only [Act.put, List.setIfInBounds_toArray, List.set_cons_succ, List.set_cons_zero])
  refine wpE_take (i := 17) (oi := { dst := some 29, op := Go.Op.extract (Go.Operand.tmp 12) 1, type := 3, pos := "stages.go:27", after := #[{ on := 15, ground := Go.Ground.data }, { on := 18, ground := Go.Ground.gcOnly Go.Departure.lateStores }], guard := none }) (v := ?_) rfl (by kernel_rfl) (fun _ _ _ h => h) (Or.inl ⟨by rfl, fun W hW => ?_⟩) hS ?_
  rotate_left
  · (obtain ⟨hw1, hw2, hw3, hw4⟩ := SecAt.cells hW); go_simp; (try go_bits); (try rw [if_pos (by omega)]); (try with_reducible rfl)
  (try simp only [Act.put, List.setIfInBounds_toArray, List.set_cons_succ, List.set_cons_zero])
  refine wpE_only (i := 18) (oi := { dst := some 7, op := Go.Op.assign (Go.Operand.tmp 28), type := 30, pos := "stages.go:27", after := #[{ on := 16, ground := Go.Ground.data }, { on := 14, ground := Go.Ground.chain }, { on := 0, ground := Go.Ground.phase }, { on := 1, ground := Go.Ground.phase }, { on := 2, ground := Go.Ground.phase }, { on := 3, ground := Go.Ground.phase }, { on := 4, ground := Go.Ground.phase }, { on := 5, ground := Go.Ground.phase }, { on := 6, ground := Go.Ground.phase }, { on := 7, ground := Go.Ground.phase }, { on := 8, ground := Go.Ground.phase }, { on := 9, ground := Go.Ground.phase }, { on := 10, ground := Go.Ground.phase }, { on := 11, ground := Go.Ground.phase }, { on := 12, ground := Go.Ground.phase }, { on := 13, ground := Go.Ground.phase }, { on := 14, ground := Go.Ground.phase }, { on := 15, ground := Go.Ground.phase }, { on := 16, ground := Go.Ground.phase }, { on := 17, ground := Go.Ground.textOnly Go.Departure.lateStores }], guard := none }) rfl (by kernel_rfl) (by rfl) (fun K hK => ?_)
  go_simp; (try go_bits); refine hK _ _ hS ?_; clear hK K
  (try simp only [Act.put, List.setIfInBounds_toArray, List.set_cons_succ, List.set_cons_zero])
  refine wpE_last (oi := { dst := some 8, op := Go.Op.assign (Go.Operand.tmp 29), type := 3, pos := "stages.go:27", after := #[{ on := 17, ground := Go.Ground.data }, { on := 18, ground := Go.Ground.chain }, { on := 0, ground := Go.Ground.phase }, { on := 1, ground := Go.Ground.phase }, { on := 2, ground := Go.Ground.phase }, { on := 3, ground := Go.Ground.phase }, { on := 4, ground := Go.Ground.phase }, { on := 5, ground := Go.Ground.phase }, { on := 6, ground := Go.Ground.phase }, { on := 7, ground := Go.Ground.phase }, { on := 8, ground := Go.Ground.phase }, { on := 9, ground := Go.Ground.phase }, { on := 10, ground := Go.Ground.phase }, { on := 11, ground := Go.Ground.phase }, { on := 12, ground := Go.Ground.phase }, { on := 13, ground := Go.Ground.phase }, { on := 14, ground := Go.Ground.phase }, { on := 15, ground := Go.Ground.phase }, { on := 16, ground := Go.Ground.phase }, { on := 17, ground := Go.Ground.phase }, { on := 18, ground := Go.Ground.phase }], guard := none }) rfl (by kernel_rfl) (by kernel_rfl) (by rfl) (fun K hK => ?_)
  go_simp; (try go_bits); refine hK _ _ ?_; clear hK K
  clear hS
  go_wp2_with fail
  refine (wrong_zero _).mono ?_; rintro r wz ⟨rfl, rfl⟩
  go_wp2
  simp only [Exit.jump, Exit.inBlock, Exit.then]
  go_ret
  exact ⟨rfl, HC1.out.1, _, _, HC1.out.2⟩
set_option maxHeartbeats 4000000 in
theorem wk_down_B {b rb t0 page a f1 f0 : Nat} {lf lv root : Int} (hM : MemAt ramK own c w rp 0 n m) (hc : c ≠ 7) (hR : Blk w rb 24 #[.pointer (some ⟨rp, 0, none⟩)]) (hB : SecAt w b rb lf lv root) (hob : own b = 7) (hor : own rb ≠ 7)
    (hp : page < 134217728) (ha : a / 4096 = page) (ht0 : t0 < n) (hl1 : lv1 m t0 page = f1 * 1024 + 1) (hf1 : f1 < n) (hl0 : lv0 m t0 page = f0 * 1024 + 1) (hf0 : f0 < n) (hle : en m f0 (page % 512) = 0) :
    Calls Try.prog 149 #[.pointer (some ⟨b, 0, none⟩), .int .u64 (t0 : Int), .int .u64 (a : Int)] w fun r w' => r = .returned (.int .i64 1) ∧ Step (· = 7) own w own w' ∧ ∃ lf' lv', SecAt w' b rb lf' lv' root := by
  have hn := hM.sizes.2.2
  have HI := Lib.hid (idx_at a page hp ha)
  have HS : ∀ W : World, Step (· = 7) own w own W → MemAt ramK own c W rp 0 n m ∧ Blk W rb 24 #[.pointer (some ⟨rp, 0, none⟩)] := by
    intro W hS
    exact ⟨hM.step hS hc, hR.upd hS.upd hor⟩
  have HX := Lib.hid HS
  have hP1 := ptrF f1 (by omega)
  have hP0 := ptrF f0 (by omega)
  have hE2 : en m t0 (page / 262144) = f1 * 1024 + 1 := hl1
  have hE1 : en m f1 (page / 512 % 512) = f0 * 1024 + 1 := by
    unfold lv0 at hl0
    rw [hl1, show (f1 * 1024 + 1) / 1024 = f1 from by omega] at hl0
    exact hl0
  obtain ⟨e2, he2⟩ : ∃ e2, f1 * 1024 + 1 = e2 := ⟨_, rfl⟩
  obtain ⟨e1, he1⟩ : ∃ e1, f0 * 1024 + 1 = e1 := ⟨_, rfl⟩
  rw [he2] at hP1 hE2
  rw [he1] at hP0 hE1
  have HP1 := Lib.hid hP1
  have HP0 := Lib.hid hP0
  have HE := Lib.hid (And.intro hE2 (And.intro hE1 hle))
  have H0 := Lib.hid hB
  clear hM hR HS hl1 hl0 he2 he1 hP1 hP0 hE2 hE1 hle hB
  go_enter Try.func149, Try.ntmps149
  have z2 := H0.out.frozen 2
  have y2 := H0.out.cells.2.2.1
  have hlt := H0.out.lt
  go_wp2
  refine wp_scope_unroll (rest := ?rest) 0 (0 + 1 + 1) ?hf ?_
  rotate_left
  · rfl
  rotate_left
  go_wp2
  go_step3
  go_wp2_with fail
  have hst : Step (· = 7) own w own (w.setCell ⟨b, 2, none⟩ (.int .i64 2)) := ⟨(Upd.refl _ _).setCell (.inl hob) _, fun _ _ => rfl⟩
  have hBn : SecAt (w.setCell ⟨b, 2, none⟩ (.int .i64 2)) b rb lf 2 root := H0.out.set_ 2 (.int .i64 2)
  have HA1 := Lib.hid (And.intro hst hBn)
  clear hst hBn z2 y2 hlt H0
  generalize (w.setCell ⟨b, 2, none⟩ (.int .i64 2)) = wa at *
  have hstd : Step (fun _ => False) own wa own wa.drew := (Step.refl _ _ _).drew
  have hSn := HA1.out.1.trans (hstd.mono (C' := (· = 7)) (fun _ h => h.elim))
  have hBn : SecAt wa.drew b rb lf 2 root := HA1.out.2.drew
  have HB1 := Lib.hid (And.intro hSn hBn)
  clear hstd hSn HA1
  refine wpE_region (S := fun (W' : World) => SecAt W' b rb lf 2 root) (s := 19) (by kernel_rfl) ?_
  have hS : (fun (W' : World) => SecAt W' b rb lf 2 root) _ := hBn
  refine wpE_take (i := 0) (oi := { dst := some 13, op := Go.Op.move (Go.Operand.tmp 0), type := 246, pos := "stages.go:27", after := #[], guard := none }) (v := ?_) rfl (by kernel_rfl) (fun _ _ _ h => h) (Or.inl ⟨by rfl, fun W hW => ?_⟩) hS ?_
  rotate_left
  · (obtain ⟨hw1, hw2, hw3, hw4⟩ := SecAt.cells hW); go_simp; (try go_bits); (try rw [if_pos (by omega)]); (try with_reducible rfl)
  (try simp only [Act.put, List.setIfInBounds_toArray, List.set_cons_succ, List.set_cons_zero])
  refine wpE_take (i := 1) (oi := { dst := some 14, op := Go.Op.nilCheck (Go.Operand.tmp 13), type := 0, pos := "stages.go:27", after := #[{ on := 0, ground := Go.Ground.data }], guard := none }) (v := ?_) rfl (by kernel_rfl) (fun _ _ _ h => h) (Or.inl ⟨by rfl, fun W hW => ?_⟩) hS ?_
  rotate_left
  · (obtain ⟨hw1, hw2, hw3, hw4⟩ := SecAt.cells hW); go_simp; (try go_bits); (try rw [if_pos (by omega)]); (try with_reducible rfl)
  (try simp only [Act.put, List.setIfInBounds_toArray, List.set_cons_succ, List.set_cons_zero])
  refine wpE_take (i := 2) (oi := { dst := some 15, op := Go.Op.fieldAddr 202 (Go.Operand.tmp 14) 0, type := 0, pos := "stages.go:27", after := #[{ on := 1, ground := Go.Ground.data }], guard := none }) (v := ?_) rfl (by kernel_rfl) (fun _ _ _ h => h) (Or.inl ⟨by rfl, fun W hW => ?_⟩) hS ?_
  rotate_left
  · (obtain ⟨hw1, hw2, hw3, hw4⟩ := SecAt.cells hW); go_simp; (try go_bits); (try rw [if_pos (by omega)]); (try with_reducible rfl)
  (try simp only [Act.put, List.setIfInBounds_toArray, List.set_cons_succ, List.set_cons_zero])
  refine wpE_take (i := 3) (oi := { dst := some 16, op := Go.Op.load 199 (Go.Operand.tmp 15), type := 199, pos := "stages.go:27", after := #[{ on := 2, ground := Go.Ground.data }], guard := none }) (v := .func (.func 148) #[] #[.pointer (some ⟨rb, 0, none⟩)]) rfl (by kernel_rfl) (fun _ _ _ h => h) (Or.inl ⟨by rfl, fun W hW => ?_⟩) hS ?_
  · (obtain ⟨hw1, hw2, hw3, hw4⟩ := SecAt.cells hW); go_simp; (try go_bits); (try rw [if_pos (by omega)]); (try with_reducible rfl)
  (try simp only [Act.put, List.setIfInBounds_toArray, List.set_cons_succ, List.set_cons_zero])
  refine wpE_take (i := 4) (oi := { dst := some 17, op := Go.Op.move (Go.Operand.tmp 1), type := 30, pos := "stages.go:27", after := #[], guard := none }) (v := ?_) rfl (by kernel_rfl) (fun _ _ _ h => h) (Or.inl ⟨by rfl, fun W hW => ?_⟩) hS ?_
  rotate_left
  · (obtain ⟨hw1, hw2, hw3, hw4⟩ := SecAt.cells hW); go_simp; (try go_bits); (try rw [if_pos (by omega)]); (try with_reducible rfl)
  (try simp only [Act.put, List.setIfInBounds_toArray, List.set_cons_succ, List.set_cons_zero])
  refine wpE_take (i := 5) (oi := { dst := some 18, op := Go.Op.move (Go.Operand.tmp 2), type := 30, pos := "stages.go:27", after := #[], guard := none }) (v := ?_) rfl (by kernel_rfl) (fun _ _ _ h => h) (Or.inl ⟨by rfl, fun W hW => ?_⟩) hS ?_
  rotate_left
  · (obtain ⟨hw1, hw2, hw3, hw4⟩ := SecAt.cells hW); go_simp; (try go_bits); (try rw [if_pos (by omega)]); (try with_reducible rfl)
  (try simp only [Act.put, List.setIfInBounds_toArray, List.set_cons_succ, List.set_cons_zero])
  refine wpE_take (i := 6) (oi := { dst := some 19, op := Go.Op.move (Go.Operand.tmp 0), type := 246, pos := "stages.go:27", after := #[], guard := none }) (v := ?_) rfl (by kernel_rfl) (fun _ _ _ h => h) (Or.inl ⟨by rfl, fun W hW => ?_⟩) hS ?_
  rotate_left
  · (obtain ⟨hw1, hw2, hw3, hw4⟩ := SecAt.cells hW); go_simp; (try go_bits); (try rw [if_pos (by omega)]); (try with_reducible rfl)
  (try simp only [Act.put, List.setIfInBounds_toArray, List.set_cons_succ, List.set_cons_zero])
  refine wpE_take (i := 7) (oi := { dst := some 20, op := Go.Op.nilCheck (Go.Operand.tmp 19), type := 0, pos := "stages.go:27", after := #[{ on := 6, ground := Go.Ground.data }], guard := none }) (v := ?_) rfl (by kernel_rfl) (fun _ _ _ h => h) (Or.inl ⟨by rfl, fun W hW => ?_⟩) hS ?_
  rotate_left
  · (obtain ⟨hw1, hw2, hw3, hw4⟩ := SecAt.cells hW); go_simp; (try go_bits); (try rw [if_pos (by omega)]); (try with_reducible rfl)
  (try simp only [Act.put, List.setIfInBounds_toArray, List.set_cons_succ, List.set_cons_zero])
  refine wpE_take (i := 8) (oi := { dst := some 21, op := Go.Op.fieldAddr 202 (Go.Operand.tmp 20) 2, type := 0, pos := "stages.go:27", after := #[{ on := 7, ground := Go.Ground.data }], guard := none }) (v := ?_) rfl (by kernel_rfl) (fun _ _ _ h => h) (Or.inl ⟨by rfl, fun W hW => ?_⟩) hS ?_
  rotate_left
  · (obtain ⟨hw1, hw2, hw3, hw4⟩ := SecAt.cells hW); go_simp; (try go_bits); (try rw [if_pos (by omega)]); (try with_reducible rfl)
  (try simp only [Act.put, List.setIfInBounds_toArray, List.set_cons_succ, List.set_cons_zero])
  refine wpE_take (i := 9) (oi := { dst := some 22, op := Go.Op.load 3 (Go.Operand.tmp 21), type := 3, pos := "stages.go:27", after := #[{ on := 8, ground := Go.Ground.data }], guard := none }) (v := .int .i64 2) rfl (by kernel_rfl) (fun _ _ _ h => h) (Or.inl ⟨by rfl, fun W hW => ?_⟩) hS ?_
  · (obtain ⟨hw1, hw2, hw3, hw4⟩ := SecAt.cells hW); go_simp; (try go_bits); (try rw [if_pos (by omega)]); (try with_reducible rfl)
  (try simp only [Act.put, List.setIfInBounds_toArray, List.set_cons_succ, List.set_cons_zero])
  refine wpE_take (i := 10) (oi := { dst := some 23, op := Go.Op.binOp Go.BinOp.mul 3 (Go.Operand.const (Go.Value.int Go.IntKind.i64 9)) (Go.Operand.tmp 22) 3, type := 3, pos := "stages.go:27", after := #[{ on := 9, ground := Go.Ground.data }], guard := none }) (v := ?_) rfl (by kernel_rfl) (fun _ _ _ h => h) (Or.inl ⟨by rfl, fun W hW => ?_⟩) hS ?_
  rotate_left
  · (obtain ⟨hw1, hw2, hw3, hw4⟩ := SecAt.cells hW); go_simp; (try go_bits); (try rw [if_pos (by omega)]); (try with_reducible rfl)
  (try simp only [Act.put, List.setIfInBounds_toArray, List.set_cons_succ, List.set_cons_zero])
  refine wpE_take (i := 11) (oi := { dst := some 24, op := Go.Op.binOp Go.BinOp.add 3 (Go.Operand.const (Go.Value.int Go.IntKind.i64 12)) (Go.Operand.tmp 23) 3, type := 3, pos := "stages.go:27", after := #[{ on := 10, ground := Go.Ground.data }], guard := none }) (v := ?_) rfl (by kernel_rfl) (fun _ _ _ h => h) (Or.inl ⟨by rfl, fun W hW => ?_⟩) hS ?_
  rotate_left
  · (obtain ⟨hw1, hw2, hw3, hw4⟩ := SecAt.cells hW); go_simp; (try go_bits); (try rw [if_pos (by omega)]); (try with_reducible rfl)
  (try simp only [Act.put, List.setIfInBounds_toArray, List.set_cons_succ, List.set_cons_zero])
  refine wpE_take (i := 12) (oi := { dst := some 25, op := Go.Op.binOp Go.BinOp.shr 30 (Go.Operand.tmp 18) (Go.Operand.tmp 24) 3, type := 30, pos := "stages.go:27", after := #[{ on := 5, ground := Go.Ground.data }, { on := 11, ground := Go.Ground.data }], guard := none }) (v := .int .u64 ((a / 1073741824 : Nat) : Int)) rfl (by kernel_rfl) (fun _ _ _ h => h) (Or.inl ⟨by rfl, fun W hW => ?_⟩) hS ?_
  · (obtain ⟨hw1, hw2, hw3, hw4⟩ := SecAt.cells hW); go_simp; (try omega); (try trivial)
  (try simp only [Act.put, List.setIfInBounds_toArray, List.set_cons_succ, List.set_cons_zero])
  refine wpE_take (i := 13) (oi := { dst := some 26, op := Go.Op.binOp Go.BinOp.and 30 (Go.Operand.tmp 25) (Go.Operand.const (Go.Value.int Go.IntKind.u64 511)) 30, type := 30, pos := "stages.go:27", after := #[{ on := 12, ground := Go.Ground.data }], guard := none }) (v := .int .u64 ((page / 262144 : Nat) : Int)) rfl (by kernel_rfl) (fun _ _ _ h => h) (Or.inl ⟨by rfl, fun W hW => ?_⟩) hS ?_
  · (obtain ⟨hw1, hw2, hw3, hw4⟩ := SecAt.cells hW); go_simp; (try rw [show ((a : Int) / 1073741824) = ((a / 1073741824 : Nat) : Int) from by omega]); (try rw [HI.out.1]); (try omega)
  (try simp only [Act.put, List.setIfInBounds_toArray, List.set_cons_succ, List.set_cons_zero])
  refine wpE_only (i := 14) (oi := { dst := some 27, op := Go.Op.call { callee := Go.Callee.value (Go.Operand.tmp 16), args := #[Go.Operand.tmp 17, Go.Operand.tmp 26], argTypes := #[30, 30] }, type := 247, pos := "stages.go:27", after := #[{ on := 3, ground := Go.Ground.data }, { on := 4, ground := Go.Ground.data }, { on := 13, ground := Go.Ground.data }], guard := none }) rfl (by kernel_rfl) (by rfl) (fun K hK => ?_)
  go_simp
  (try rw [show ((page : Int) / 262144) = ((page / 262144 : Nat) : Int) from by omega])
  (try rw [show ((page : Int) / 512 % 512) = ((page / 512 % 512 : Nat) : Int) from by omega])
  (try rw [show ((page : Int) % 512) = ((page % 512 : Nat) : Int) from by omega])
  have hE := page_entry1 (HX.out _ HB1.out.1).1 rb (HX.out _ HB1.out.1).2 t0 (page / 262144) (by omega) (by omega)
  rw [HE.out.1] at hE
  refine hE.mono ?_; rintro r wb ⟨rfl, hUB⟩
  have hSB : Step (fun _ => False) own _ own wb := ⟨hUB, fun _ _ => rfl⟩
  have hSn := HB1.out.1.trans (hSB.mono (C' := (· = 7)) (fun _ h => h.elim))
  have hS : SecAt wb b rb lf 2 root := hBn.upd hUB (fun h => h)
  have HC1 := Lib.hid (And.intro hSn hS)
  clear hE hUB hSB hSn hBn HB1
  refine hK _ _ hS ?_; clear hK K
  (try simp only [Act.put, List.setIfInBounds_toArray, List.set_cons_succ, List.set_cons_zero])
  refine wpE_take (i := 15) (oi := { dst := some 12, op := Go.Op.move (Go.Operand.tmp 27), type := 247, pos := "stages.go:27", after := #[{ on := 14, ground := Go.Ground.data }], guard := none }) (v := ?_) rfl (by kernel_rfl) (fun _ _ _ h => h) (Or.inl ⟨by rfl, fun W hW => ?_⟩) hS ?_
  rotate_left
  · (obtain ⟨hw1, hw2, hw3, hw4⟩ := SecAt.cells hW); go_simp; (try go_bits); (try rw [if_pos (by omega)]); (try with_reducible rfl)
  (try simp only [Act.put, List.setIfInBounds_toArray, List.set_cons_succ, List.set_cons_zero])
  refine wpE_take (i := 16) (oi := { dst := some 28, op := Go.Op.extract (Go.Operand.tmp 12) 0, type := 30, pos := "stages.go:27", after := #[{ on := 15, ground := Go.Ground.data }], guard := none }) (v := ?_) rfl (by kernel_rfl) (fun _ _ _ h => h) (Or.inl ⟨by rfl, fun W hW => ?_⟩) hS ?_
  rotate_left
  · (obtain ⟨hw1, hw2, hw3, hw4⟩ := SecAt.cells hW); go_simp; (try go_bits); (try rw [if_pos (by omega)]); (try with_reducible rfl)
  (try simp only [Act.put, List.setIfInBounds_toArray, List.set_cons_succ, List.set_cons_zero])
  refine wpE_take (i := 17) (oi := { dst := some 29, op := Go.Op.extract (Go.Operand.tmp 12) 1, type := 3, pos := "stages.go:27", after := #[{ on := 15, ground := Go.Ground.data }, { on := 18, ground := Go.Ground.gcOnly Go.Departure.lateStores }], guard := none }) (v := ?_) rfl (by kernel_rfl) (fun _ _ _ h => h) (Or.inl ⟨by rfl, fun W hW => ?_⟩) hS ?_
  rotate_left
  · (obtain ⟨hw1, hw2, hw3, hw4⟩ := SecAt.cells hW); go_simp; (try go_bits); (try rw [if_pos (by omega)]); (try with_reducible rfl)
  (try simp only [Act.put, List.setIfInBounds_toArray, List.set_cons_succ, List.set_cons_zero])
  refine wpE_only (i := 18) (oi := { dst := some 7, op := Go.Op.assign (Go.Operand.tmp 28), type := 30, pos := "stages.go:27", after := #[{ on := 16, ground := Go.Ground.data }, { on := 14, ground := Go.Ground.chain }, { on := 0, ground := Go.Ground.phase }, { on := 1, ground := Go.Ground.phase }, { on := 2, ground := Go.Ground.phase }, { on := 3, ground := Go.Ground.phase }, { on := 4, ground := Go.Ground.phase }, { on := 5, ground := Go.Ground.phase }, { on := 6, ground := Go.Ground.phase }, { on := 7, ground := Go.Ground.phase }, { on := 8, ground := Go.Ground.phase }, { on := 9, ground := Go.Ground.phase }, { on := 10, ground := Go.Ground.phase }, { on := 11, ground := Go.Ground.phase }, { on := 12, ground := Go.Ground.phase }, { on := 13, ground := Go.Ground.phase }, { on := 14, ground := Go.Ground.phase }, { on := 15, ground := Go.Ground.phase }, { on := 16, ground := Go.Ground.phase }, { on := 17, ground := Go.Ground.textOnly Go.Departure.lateStores }], guard := none }) rfl (by kernel_rfl) (by rfl) (fun K hK => ?_)
  go_simp; (try go_bits); refine hK _ _ hS ?_; clear hK K
  (try simp only [Act.put, List.setIfInBounds_toArray, List.set_cons_succ, List.set_cons_zero])
  refine wpE_last (oi := { dst := some 8, op := Go.Op.assign (Go.Operand.tmp 29), type := 3, pos := "stages.go:27", after := #[{ on := 17, ground := Go.Ground.data }, { on := 18, ground := Go.Ground.chain }, { on := 0, ground := Go.Ground.phase }, { on := 1, ground := Go.Ground.phase }, { on := 2, ground := Go.Ground.phase }, { on := 3, ground := Go.Ground.phase }, { on := 4, ground := Go.Ground.phase }, { on := 5, ground := Go.Ground.phase }, { on := 6, ground := Go.Ground.phase }, { on := 7, ground := Go.Ground.phase }, { on := 8, ground := Go.Ground.phase }, { on := 9, ground := Go.Ground.phase }, { on := 10, ground := Go.Ground.phase }, { on := 11, ground := Go.Ground.phase }, { on := 12, ground := Go.Ground.phase }, { on := 13, ground := Go.Ground.phase }, { on := 14, ground := Go.Ground.phase }, { on := 15, ground := Go.Ground.phase }, { on := 16, ground := Go.Ground.phase }, { on := 17, ground := Go.Ground.phase }, { on := 18, ground := Go.Ground.phase }], guard := none }) rfl (by kernel_rfl) (by kernel_rfl) (by rfl) (fun K hK => ?_)
  go_simp; (try go_bits); refine hK _ _ ?_; clear hK K
  clear hS
  obtain ⟨lt, a1, a6, a54, a10, nm⟩ := HP1.out
  have HWr := Lib.hid (wrong_no lt a1 a6 rfl a54)
  have z2 := HC1.out.2.frozen 2
  have y2 := HC1.out.2.cells.2.2.1
  have hlt := HC1.out.2.lt
  clear a1 a6 a54
  go_wp2_with fail
  refine (HWr.out _).mono ?_; rintro r wz ⟨rfl, rfl⟩
  clear HWr
  go_wp2
  go_step3
  refine ⟨rfl, ?_⟩
  rw [jumpsN_succ]
  have hst : Step (· = 7) own wb own (wb.setCell ⟨b, 2, none⟩ (.int .i64 1)) := ⟨(Upd.refl _ _).setCell (.inl hob) _, fun _ _ => rfl⟩
  have hBn : SecAt (wb.setCell ⟨b, 2, none⟩ (.int .i64 1)) b rb lf 1 root := HC1.out.2.set_ 2 (.int .i64 1)
  have HA2 := Lib.hid (And.intro (HC1.out.1.trans hst) hBn)
  clear hst hBn z2 y2 hlt HC1 lt a10 nm
  generalize (wb.setCell ⟨b, 2, none⟩ (.int .i64 1)) = wc at *
  go_wp2_with fail
  have hstd : Step (fun _ => False) own wc own wc.drew := (Step.refl _ _ _).drew
  have hSn := HA2.out.1.trans (hstd.mono (C' := (· = 7)) (fun _ h => h.elim))
  have hBn : SecAt wc.drew b rb lf 1 root := HA2.out.2.drew
  have HB2 := Lib.hid (And.intro hSn hBn)
  clear hstd hSn HA2
  refine wpE_region (S := fun (W' : World) => SecAt W' b rb lf 1 root) (s := 19) (by kernel_rfl) ?_
  have hS : (fun (W' : World) => SecAt W' b rb lf 1 root) _ := hBn
  refine wpE_take (i := 0) (oi := { dst := some 13, op := Go.Op.move (Go.Operand.tmp 0), type := 246, pos := "stages.go:27", after := #[], guard := none }) (v := ?_) rfl (by kernel_rfl) (fun _ _ _ h => h) (Or.inl ⟨by rfl, fun W hW => ?_⟩) hS ?_
  rotate_left
  · (obtain ⟨hw1, hw2, hw3, hw4⟩ := SecAt.cells hW); go_simp; (try go_bits); (try rw [if_pos (by omega)]); (try with_reducible rfl)
  (try simp only [Act.put, List.setIfInBounds_toArray, List.set_cons_succ, List.set_cons_zero])
  refine wpE_take (i := 1) (oi := { dst := some 14, op := Go.Op.nilCheck (Go.Operand.tmp 13), type := 0, pos := "stages.go:27", after := #[{ on := 0, ground := Go.Ground.data }], guard := none }) (v := ?_) rfl (by kernel_rfl) (fun _ _ _ h => h) (Or.inl ⟨by rfl, fun W hW => ?_⟩) hS ?_
  rotate_left
  · (obtain ⟨hw1, hw2, hw3, hw4⟩ := SecAt.cells hW); go_simp; (try go_bits); (try rw [if_pos (by omega)]); (try with_reducible rfl)
  (try simp only [Act.put, List.setIfInBounds_toArray, List.set_cons_succ, List.set_cons_zero])
  refine wpE_take (i := 2) (oi := { dst := some 15, op := Go.Op.fieldAddr 202 (Go.Operand.tmp 14) 0, type := 0, pos := "stages.go:27", after := #[{ on := 1, ground := Go.Ground.data }], guard := none }) (v := ?_) rfl (by kernel_rfl) (fun _ _ _ h => h) (Or.inl ⟨by rfl, fun W hW => ?_⟩) hS ?_
  rotate_left
  · (obtain ⟨hw1, hw2, hw3, hw4⟩ := SecAt.cells hW); go_simp; (try go_bits); (try rw [if_pos (by omega)]); (try with_reducible rfl)
  (try simp only [Act.put, List.setIfInBounds_toArray, List.set_cons_succ, List.set_cons_zero])
  refine wpE_take (i := 3) (oi := { dst := some 16, op := Go.Op.load 199 (Go.Operand.tmp 15), type := 199, pos := "stages.go:27", after := #[{ on := 2, ground := Go.Ground.data }], guard := none }) (v := .func (.func 148) #[] #[.pointer (some ⟨rb, 0, none⟩)]) rfl (by kernel_rfl) (fun _ _ _ h => h) (Or.inl ⟨by rfl, fun W hW => ?_⟩) hS ?_
  · (obtain ⟨hw1, hw2, hw3, hw4⟩ := SecAt.cells hW); go_simp; (try go_bits); (try rw [if_pos (by omega)]); (try with_reducible rfl)
  (try simp only [Act.put, List.setIfInBounds_toArray, List.set_cons_succ, List.set_cons_zero])
  refine wpE_take (i := 4) (oi := { dst := some 17, op := Go.Op.move (Go.Operand.tmp 1), type := 30, pos := "stages.go:27", after := #[], guard := none }) (v := ?_) rfl (by kernel_rfl) (fun _ _ _ h => h) (Or.inl ⟨by rfl, fun W hW => ?_⟩) hS ?_
  rotate_left
  · (obtain ⟨hw1, hw2, hw3, hw4⟩ := SecAt.cells hW); go_simp; (try go_bits); (try rw [if_pos (by omega)]); (try with_reducible rfl)
  (try simp only [Act.put, List.setIfInBounds_toArray, List.set_cons_succ, List.set_cons_zero])
  refine wpE_take (i := 5) (oi := { dst := some 18, op := Go.Op.move (Go.Operand.tmp 2), type := 30, pos := "stages.go:27", after := #[], guard := none }) (v := ?_) rfl (by kernel_rfl) (fun _ _ _ h => h) (Or.inl ⟨by rfl, fun W hW => ?_⟩) hS ?_
  rotate_left
  · (obtain ⟨hw1, hw2, hw3, hw4⟩ := SecAt.cells hW); go_simp; (try go_bits); (try rw [if_pos (by omega)]); (try with_reducible rfl)
  (try simp only [Act.put, List.setIfInBounds_toArray, List.set_cons_succ, List.set_cons_zero])
  refine wpE_take (i := 6) (oi := { dst := some 19, op := Go.Op.move (Go.Operand.tmp 0), type := 246, pos := "stages.go:27", after := #[], guard := none }) (v := ?_) rfl (by kernel_rfl) (fun _ _ _ h => h) (Or.inl ⟨by rfl, fun W hW => ?_⟩) hS ?_
  rotate_left
  · (obtain ⟨hw1, hw2, hw3, hw4⟩ := SecAt.cells hW); go_simp; (try go_bits); (try rw [if_pos (by omega)]); (try with_reducible rfl)
  (try simp only [Act.put, List.setIfInBounds_toArray, List.set_cons_succ, List.set_cons_zero])
  refine wpE_take (i := 7) (oi := { dst := some 20, op := Go.Op.nilCheck (Go.Operand.tmp 19), type := 0, pos := "stages.go:27", after := #[{ on := 6, ground := Go.Ground.data }], guard := none }) (v := ?_) rfl (by kernel_rfl) (fun _ _ _ h => h) (Or.inl ⟨by rfl, fun W hW => ?_⟩) hS ?_
  rotate_left
  · (obtain ⟨hw1, hw2, hw3, hw4⟩ := SecAt.cells hW); go_simp; (try go_bits); (try rw [if_pos (by omega)]); (try with_reducible rfl)
  (try simp only [Act.put, List.setIfInBounds_toArray, List.set_cons_succ, List.set_cons_zero])
  refine wpE_take (i := 8) (oi := { dst := some 21, op := Go.Op.fieldAddr 202 (Go.Operand.tmp 20) 2, type := 0, pos := "stages.go:27", after := #[{ on := 7, ground := Go.Ground.data }], guard := none }) (v := ?_) rfl (by kernel_rfl) (fun _ _ _ h => h) (Or.inl ⟨by rfl, fun W hW => ?_⟩) hS ?_
  rotate_left
  · (obtain ⟨hw1, hw2, hw3, hw4⟩ := SecAt.cells hW); go_simp; (try go_bits); (try rw [if_pos (by omega)]); (try with_reducible rfl)
  (try simp only [Act.put, List.setIfInBounds_toArray, List.set_cons_succ, List.set_cons_zero])
  refine wpE_take (i := 9) (oi := { dst := some 22, op := Go.Op.load 3 (Go.Operand.tmp 21), type := 3, pos := "stages.go:27", after := #[{ on := 8, ground := Go.Ground.data }], guard := none }) (v := .int .i64 1) rfl (by kernel_rfl) (fun _ _ _ h => h) (Or.inl ⟨by rfl, fun W hW => ?_⟩) hS ?_
  · (obtain ⟨hw1, hw2, hw3, hw4⟩ := SecAt.cells hW); go_simp; (try go_bits); (try rw [if_pos (by omega)]); (try with_reducible rfl)
  (try simp only [Act.put, List.setIfInBounds_toArray, List.set_cons_succ, List.set_cons_zero])
  refine wpE_take (i := 10) (oi := { dst := some 23, op := Go.Op.binOp Go.BinOp.mul 3 (Go.Operand.const (Go.Value.int Go.IntKind.i64 9)) (Go.Operand.tmp 22) 3, type := 3, pos := "stages.go:27", after := #[{ on := 9, ground := Go.Ground.data }], guard := none }) (v := ?_) rfl (by kernel_rfl) (fun _ _ _ h => h) (Or.inl ⟨by rfl, fun W hW => ?_⟩) hS ?_
  rotate_left
  · (obtain ⟨hw1, hw2, hw3, hw4⟩ := SecAt.cells hW); go_simp; (try go_bits); (try rw [if_pos (by omega)]); (try with_reducible rfl)
  (try simp only [Act.put, List.setIfInBounds_toArray, List.set_cons_succ, List.set_cons_zero])
  refine wpE_take (i := 11) (oi := { dst := some 24, op := Go.Op.binOp Go.BinOp.add 3 (Go.Operand.const (Go.Value.int Go.IntKind.i64 12)) (Go.Operand.tmp 23) 3, type := 3, pos := "stages.go:27", after := #[{ on := 10, ground := Go.Ground.data }], guard := none }) (v := ?_) rfl (by kernel_rfl) (fun _ _ _ h => h) (Or.inl ⟨by rfl, fun W hW => ?_⟩) hS ?_
  rotate_left
  · (obtain ⟨hw1, hw2, hw3, hw4⟩ := SecAt.cells hW); go_simp; (try go_bits); (try rw [if_pos (by omega)]); (try with_reducible rfl)
  (try simp only [Act.put, List.setIfInBounds_toArray, List.set_cons_succ, List.set_cons_zero])
  refine wpE_take (i := 12) (oi := { dst := some 25, op := Go.Op.binOp Go.BinOp.shr 30 (Go.Operand.tmp 18) (Go.Operand.tmp 24) 3, type := 30, pos := "stages.go:27", after := #[{ on := 5, ground := Go.Ground.data }, { on := 11, ground := Go.Ground.data }], guard := none }) (v := .int .u64 ((a / 2097152 : Nat) : Int)) rfl (by kernel_rfl) (fun _ _ _ h => h) (Or.inl ⟨by rfl, fun W hW => ?_⟩) hS ?_
  · (obtain ⟨hw1, hw2, hw3, hw4⟩ := SecAt.cells hW); go_simp; (try omega); (try trivial)
  (try simp only [Act.put, List.setIfInBounds_toArray, List.set_cons_succ, List.set_cons_zero])
  refine wpE_take (i := 13) (oi := { dst := some 26, op := Go.Op.binOp Go.BinOp.and 30 (Go.Operand.tmp 25) (Go.Operand.const (Go.Value.int Go.IntKind.u64 511)) 30, type := 30, pos := "stages.go:27", after := #[{ on := 12, ground := Go.Ground.data }], guard := none }) (v := .int .u64 ((page / 512 % 512 : Nat) : Int)) rfl (by kernel_rfl) (fun _ _ _ h => h) (Or.inl ⟨by rfl, fun W hW => ?_⟩) hS ?_
  · (obtain ⟨hw1, hw2, hw3, hw4⟩ := SecAt.cells hW); go_simp; (try rw [show ((a : Int) / 2097152) = ((a / 2097152 : Nat) : Int) from by omega]); (try rw [HI.out.2.1]); (try omega)
  (try simp only [Act.put, List.setIfInBounds_toArray, List.set_cons_succ, List.set_cons_zero])
  refine wpE_only (i := 14) (oi := { dst := some 27, op := Go.Op.call { callee := Go.Callee.value (Go.Operand.tmp 16), args := #[Go.Operand.tmp 17, Go.Operand.tmp 26], argTypes := #[30, 30] }, type := 247, pos := "stages.go:27", after := #[{ on := 3, ground := Go.Ground.data }, { on := 4, ground := Go.Ground.data }, { on := 13, ground := Go.Ground.data }], guard := none }) rfl (by kernel_rfl) (by rfl) (fun K hK => ?_)
  go_simp
  (try rw [show ((page : Int) / 262144) = ((page / 262144 : Nat) : Int) from by omega])
  (try rw [show ((page : Int) / 512 % 512) = ((page / 512 % 512 : Nat) : Int) from by omega])
  (try rw [show ((page : Int) % 512) = ((page % 512 : Nat) : Int) from by omega])
  have hE := page_entry1 (HX.out _ HB2.out.1).1 rb (HX.out _ HB2.out.1).2 f1 (page / 512 % 512) (by omega) (by omega)
  rw [HE.out.2.1] at hE
  refine hE.mono ?_; rintro r wd ⟨rfl, hUB⟩
  have hSB : Step (fun _ => False) own _ own wd := ⟨hUB, fun _ _ => rfl⟩
  have hSn := HB2.out.1.trans (hSB.mono (C' := (· = 7)) (fun _ h => h.elim))
  have hS : SecAt wd b rb lf 1 root := hBn.upd hUB (fun h => h)
  have HC2 := Lib.hid (And.intro hSn hS)
  clear hE hUB hSB hSn hBn HB2
  refine hK _ _ hS ?_; clear hK K
  (try simp only [Act.put, List.setIfInBounds_toArray, List.set_cons_succ, List.set_cons_zero])
  refine wpE_take (i := 15) (oi := { dst := some 12, op := Go.Op.move (Go.Operand.tmp 27), type := 247, pos := "stages.go:27", after := #[{ on := 14, ground := Go.Ground.data }], guard := none }) (v := ?_) rfl (by kernel_rfl) (fun _ _ _ h => h) (Or.inl ⟨by rfl, fun W hW => ?_⟩) hS ?_
  rotate_left
  · (obtain ⟨hw1, hw2, hw3, hw4⟩ := SecAt.cells hW); go_simp; (try go_bits); (try rw [if_pos (by omega)]); (try with_reducible rfl)
  (try simp only [Act.put, List.setIfInBounds_toArray, List.set_cons_succ, List.set_cons_zero])
  refine wpE_take (i := 16) (oi := { dst := some 28, op := Go.Op.extract (Go.Operand.tmp 12) 0, type := 30, pos := "stages.go:27", after := #[{ on := 15, ground := Go.Ground.data }], guard := none }) (v := ?_) rfl (by kernel_rfl) (fun _ _ _ h => h) (Or.inl ⟨by rfl, fun W hW => ?_⟩) hS ?_
  rotate_left
  · (obtain ⟨hw1, hw2, hw3, hw4⟩ := SecAt.cells hW); go_simp; (try go_bits); (try rw [if_pos (by omega)]); (try with_reducible rfl)
  (try simp only [Act.put, List.setIfInBounds_toArray, List.set_cons_succ, List.set_cons_zero])
  refine wpE_take (i := 17) (oi := { dst := some 29, op := Go.Op.extract (Go.Operand.tmp 12) 1, type := 3, pos := "stages.go:27", after := #[{ on := 15, ground := Go.Ground.data }, { on := 18, ground := Go.Ground.gcOnly Go.Departure.lateStores }], guard := none }) (v := ?_) rfl (by kernel_rfl) (fun _ _ _ h => h) (Or.inl ⟨by rfl, fun W hW => ?_⟩) hS ?_
  rotate_left
  · (obtain ⟨hw1, hw2, hw3, hw4⟩ := SecAt.cells hW); go_simp; (try go_bits); (try rw [if_pos (by omega)]); (try with_reducible rfl)
  (try simp only [Act.put, List.setIfInBounds_toArray, List.set_cons_succ, List.set_cons_zero])
  refine wpE_only (i := 18) (oi := { dst := some 7, op := Go.Op.assign (Go.Operand.tmp 28), type := 30, pos := "stages.go:27", after := #[{ on := 16, ground := Go.Ground.data }, { on := 14, ground := Go.Ground.chain }, { on := 0, ground := Go.Ground.phase }, { on := 1, ground := Go.Ground.phase }, { on := 2, ground := Go.Ground.phase }, { on := 3, ground := Go.Ground.phase }, { on := 4, ground := Go.Ground.phase }, { on := 5, ground := Go.Ground.phase }, { on := 6, ground := Go.Ground.phase }, { on := 7, ground := Go.Ground.phase }, { on := 8, ground := Go.Ground.phase }, { on := 9, ground := Go.Ground.phase }, { on := 10, ground := Go.Ground.phase }, { on := 11, ground := Go.Ground.phase }, { on := 12, ground := Go.Ground.phase }, { on := 13, ground := Go.Ground.phase }, { on := 14, ground := Go.Ground.phase }, { on := 15, ground := Go.Ground.phase }, { on := 16, ground := Go.Ground.phase }, { on := 17, ground := Go.Ground.textOnly Go.Departure.lateStores }], guard := none }) rfl (by kernel_rfl) (by rfl) (fun K hK => ?_)
  go_simp; (try go_bits); refine hK _ _ hS ?_; clear hK K
  (try simp only [Act.put, List.setIfInBounds_toArray, List.set_cons_succ, List.set_cons_zero])
  refine wpE_last (oi := { dst := some 8, op := Go.Op.assign (Go.Operand.tmp 29), type := 3, pos := "stages.go:27", after := #[{ on := 17, ground := Go.Ground.data }, { on := 18, ground := Go.Ground.chain }, { on := 0, ground := Go.Ground.phase }, { on := 1, ground := Go.Ground.phase }, { on := 2, ground := Go.Ground.phase }, { on := 3, ground := Go.Ground.phase }, { on := 4, ground := Go.Ground.phase }, { on := 5, ground := Go.Ground.phase }, { on := 6, ground := Go.Ground.phase }, { on := 7, ground := Go.Ground.phase }, { on := 8, ground := Go.Ground.phase }, { on := 9, ground := Go.Ground.phase }, { on := 10, ground := Go.Ground.phase }, { on := 11, ground := Go.Ground.phase }, { on := 12, ground := Go.Ground.phase }, { on := 13, ground := Go.Ground.phase }, { on := 14, ground := Go.Ground.phase }, { on := 15, ground := Go.Ground.phase }, { on := 16, ground := Go.Ground.phase }, { on := 17, ground := Go.Ground.phase }, { on := 18, ground := Go.Ground.phase }], guard := none }) rfl (by kernel_rfl) (by kernel_rfl) (by rfl) (fun K hK => ?_)
  go_simp; (try go_bits); refine hK _ _ ?_; clear hK K
  clear hS
  obtain ⟨lt, a1, a6, a54, a10, nm⟩ := HP0.out
  have HWr := Lib.hid (wrong_no lt a1 a6 rfl a54)
  have z2 := HC2.out.2.frozen 2
  have y2 := HC2.out.2.cells.2.2.1
  have hlt := HC2.out.2.lt
  clear a1 a6 a54
  go_wp2_with fail
  refine (HWr.out _).mono ?_; rintro r wz ⟨rfl, rfl⟩
  clear HWr
  go_wp2
  go_step3
  refine ⟨rfl, ?_⟩
  rw [jumpsN_succ]
  have hst : Step (· = 7) own wd own (wd.setCell ⟨b, 2, none⟩ (.int .i64 0)) := ⟨(Upd.refl _ _).setCell (.inl hob) _, fun _ _ => rfl⟩
  have hBn : SecAt (wd.setCell ⟨b, 2, none⟩ (.int .i64 0)) b rb lf 0 root := HC2.out.2.set_ 2 (.int .i64 0)
  have HA3 := Lib.hid (And.intro (HC2.out.1.trans hst) hBn)
  clear hst hBn z2 y2 hlt HC2 lt a10 nm
  generalize (wd.setCell ⟨b, 2, none⟩ (.int .i64 0)) = we at *
  go_wp2_with fail
  have hstd : Step (fun _ => False) own we own we.drew := (Step.refl _ _ _).drew
  have hSn := HA3.out.1.trans (hstd.mono (C' := (· = 7)) (fun _ h => h.elim))
  have hBn : SecAt we.drew b rb lf 0 root := HA3.out.2.drew
  have HB3 := Lib.hid (And.intro hSn hBn)
  clear hstd hSn HA3
  refine wpE_region (S := fun (W' : World) => SecAt W' b rb lf 0 root) (s := 19) (by kernel_rfl) ?_
  have hS : (fun (W' : World) => SecAt W' b rb lf 0 root) _ := hBn
  refine wpE_take (i := 0) (oi := { dst := some 13, op := Go.Op.move (Go.Operand.tmp 0), type := 246, pos := "stages.go:27", after := #[], guard := none }) (v := ?_) rfl (by kernel_rfl) (fun _ _ _ h => h) (Or.inl ⟨by rfl, fun W hW => ?_⟩) hS ?_
  rotate_left
  · (obtain ⟨hw1, hw2, hw3, hw4⟩ := SecAt.cells hW); go_simp; (try go_bits); (try rw [if_pos (by omega)]); (try with_reducible rfl)
  (try simp only [Act.put, List.setIfInBounds_toArray, List.set_cons_succ, List.set_cons_zero])
  refine wpE_take (i := 1) (oi := { dst := some 14, op := Go.Op.nilCheck (Go.Operand.tmp 13), type := 0, pos := "stages.go:27", after := #[{ on := 0, ground := Go.Ground.data }], guard := none }) (v := ?_) rfl (by kernel_rfl) (fun _ _ _ h => h) (Or.inl ⟨by rfl, fun W hW => ?_⟩) hS ?_
  rotate_left
  · (obtain ⟨hw1, hw2, hw3, hw4⟩ := SecAt.cells hW); go_simp; (try go_bits); (try rw [if_pos (by omega)]); (try with_reducible rfl)
  (try simp only [Act.put, List.setIfInBounds_toArray, List.set_cons_succ, List.set_cons_zero])
  refine wpE_take (i := 2) (oi := { dst := some 15, op := Go.Op.fieldAddr 202 (Go.Operand.tmp 14) 0, type := 0, pos := "stages.go:27", after := #[{ on := 1, ground := Go.Ground.data }], guard := none }) (v := ?_) rfl (by kernel_rfl) (fun _ _ _ h => h) (Or.inl ⟨by rfl, fun W hW => ?_⟩) hS ?_
  rotate_left
  · (obtain ⟨hw1, hw2, hw3, hw4⟩ := SecAt.cells hW); go_simp; (try go_bits); (try rw [if_pos (by omega)]); (try with_reducible rfl)
  (try simp only [Act.put, List.setIfInBounds_toArray, List.set_cons_succ, List.set_cons_zero])
  refine wpE_take (i := 3) (oi := { dst := some 16, op := Go.Op.load 199 (Go.Operand.tmp 15), type := 199, pos := "stages.go:27", after := #[{ on := 2, ground := Go.Ground.data }], guard := none }) (v := .func (.func 148) #[] #[.pointer (some ⟨rb, 0, none⟩)]) rfl (by kernel_rfl) (fun _ _ _ h => h) (Or.inl ⟨by rfl, fun W hW => ?_⟩) hS ?_
  · (obtain ⟨hw1, hw2, hw3, hw4⟩ := SecAt.cells hW); go_simp; (try go_bits); (try rw [if_pos (by omega)]); (try with_reducible rfl)
  (try simp only [Act.put, List.setIfInBounds_toArray, List.set_cons_succ, List.set_cons_zero])
  refine wpE_take (i := 4) (oi := { dst := some 17, op := Go.Op.move (Go.Operand.tmp 1), type := 30, pos := "stages.go:27", after := #[], guard := none }) (v := ?_) rfl (by kernel_rfl) (fun _ _ _ h => h) (Or.inl ⟨by rfl, fun W hW => ?_⟩) hS ?_
  rotate_left
  · (obtain ⟨hw1, hw2, hw3, hw4⟩ := SecAt.cells hW); go_simp; (try go_bits); (try rw [if_pos (by omega)]); (try with_reducible rfl)
  (try simp only [Act.put, List.setIfInBounds_toArray, List.set_cons_succ, List.set_cons_zero])
  refine wpE_take (i := 5) (oi := { dst := some 18, op := Go.Op.move (Go.Operand.tmp 2), type := 30, pos := "stages.go:27", after := #[], guard := none }) (v := ?_) rfl (by kernel_rfl) (fun _ _ _ h => h) (Or.inl ⟨by rfl, fun W hW => ?_⟩) hS ?_
  rotate_left
  · (obtain ⟨hw1, hw2, hw3, hw4⟩ := SecAt.cells hW); go_simp; (try go_bits); (try rw [if_pos (by omega)]); (try with_reducible rfl)
  (try simp only [Act.put, List.setIfInBounds_toArray, List.set_cons_succ, List.set_cons_zero])
  refine wpE_take (i := 6) (oi := { dst := some 19, op := Go.Op.move (Go.Operand.tmp 0), type := 246, pos := "stages.go:27", after := #[], guard := none }) (v := ?_) rfl (by kernel_rfl) (fun _ _ _ h => h) (Or.inl ⟨by rfl, fun W hW => ?_⟩) hS ?_
  rotate_left
  · (obtain ⟨hw1, hw2, hw3, hw4⟩ := SecAt.cells hW); go_simp; (try go_bits); (try rw [if_pos (by omega)]); (try with_reducible rfl)
  (try simp only [Act.put, List.setIfInBounds_toArray, List.set_cons_succ, List.set_cons_zero])
  refine wpE_take (i := 7) (oi := { dst := some 20, op := Go.Op.nilCheck (Go.Operand.tmp 19), type := 0, pos := "stages.go:27", after := #[{ on := 6, ground := Go.Ground.data }], guard := none }) (v := ?_) rfl (by kernel_rfl) (fun _ _ _ h => h) (Or.inl ⟨by rfl, fun W hW => ?_⟩) hS ?_
  rotate_left
  · (obtain ⟨hw1, hw2, hw3, hw4⟩ := SecAt.cells hW); go_simp; (try go_bits); (try rw [if_pos (by omega)]); (try with_reducible rfl)
  (try simp only [Act.put, List.setIfInBounds_toArray, List.set_cons_succ, List.set_cons_zero])
  refine wpE_take (i := 8) (oi := { dst := some 21, op := Go.Op.fieldAddr 202 (Go.Operand.tmp 20) 2, type := 0, pos := "stages.go:27", after := #[{ on := 7, ground := Go.Ground.data }], guard := none }) (v := ?_) rfl (by kernel_rfl) (fun _ _ _ h => h) (Or.inl ⟨by rfl, fun W hW => ?_⟩) hS ?_
  rotate_left
  · (obtain ⟨hw1, hw2, hw3, hw4⟩ := SecAt.cells hW); go_simp; (try go_bits); (try rw [if_pos (by omega)]); (try with_reducible rfl)
  (try simp only [Act.put, List.setIfInBounds_toArray, List.set_cons_succ, List.set_cons_zero])
  refine wpE_take (i := 9) (oi := { dst := some 22, op := Go.Op.load 3 (Go.Operand.tmp 21), type := 3, pos := "stages.go:27", after := #[{ on := 8, ground := Go.Ground.data }], guard := none }) (v := .int .i64 0) rfl (by kernel_rfl) (fun _ _ _ h => h) (Or.inl ⟨by rfl, fun W hW => ?_⟩) hS ?_
  · (obtain ⟨hw1, hw2, hw3, hw4⟩ := SecAt.cells hW); go_simp; (try go_bits); (try rw [if_pos (by omega)]); (try with_reducible rfl)
  (try simp only [Act.put, List.setIfInBounds_toArray, List.set_cons_succ, List.set_cons_zero])
  refine wpE_take (i := 10) (oi := { dst := some 23, op := Go.Op.binOp Go.BinOp.mul 3 (Go.Operand.const (Go.Value.int Go.IntKind.i64 9)) (Go.Operand.tmp 22) 3, type := 3, pos := "stages.go:27", after := #[{ on := 9, ground := Go.Ground.data }], guard := none }) (v := ?_) rfl (by kernel_rfl) (fun _ _ _ h => h) (Or.inl ⟨by rfl, fun W hW => ?_⟩) hS ?_
  rotate_left
  · (obtain ⟨hw1, hw2, hw3, hw4⟩ := SecAt.cells hW); go_simp; (try go_bits); (try rw [if_pos (by omega)]); (try with_reducible rfl)
  (try simp only [Act.put, List.setIfInBounds_toArray, List.set_cons_succ, List.set_cons_zero])
  refine wpE_take (i := 11) (oi := { dst := some 24, op := Go.Op.binOp Go.BinOp.add 3 (Go.Operand.const (Go.Value.int Go.IntKind.i64 12)) (Go.Operand.tmp 23) 3, type := 3, pos := "stages.go:27", after := #[{ on := 10, ground := Go.Ground.data }], guard := none }) (v := ?_) rfl (by kernel_rfl) (fun _ _ _ h => h) (Or.inl ⟨by rfl, fun W hW => ?_⟩) hS ?_
  rotate_left
  · (obtain ⟨hw1, hw2, hw3, hw4⟩ := SecAt.cells hW); go_simp; (try go_bits); (try rw [if_pos (by omega)]); (try with_reducible rfl)
  (try simp only [Act.put, List.setIfInBounds_toArray, List.set_cons_succ, List.set_cons_zero])
  refine wpE_take (i := 12) (oi := { dst := some 25, op := Go.Op.binOp Go.BinOp.shr 30 (Go.Operand.tmp 18) (Go.Operand.tmp 24) 3, type := 30, pos := "stages.go:27", after := #[{ on := 5, ground := Go.Ground.data }, { on := 11, ground := Go.Ground.data }], guard := none }) (v := .int .u64 ((a / 4096 : Nat) : Int)) rfl (by kernel_rfl) (fun _ _ _ h => h) (Or.inl ⟨by rfl, fun W hW => ?_⟩) hS ?_
  · (obtain ⟨hw1, hw2, hw3, hw4⟩ := SecAt.cells hW); go_simp; (try omega); (try trivial)
  (try simp only [Act.put, List.setIfInBounds_toArray, List.set_cons_succ, List.set_cons_zero])
  refine wpE_take (i := 13) (oi := { dst := some 26, op := Go.Op.binOp Go.BinOp.and 30 (Go.Operand.tmp 25) (Go.Operand.const (Go.Value.int Go.IntKind.u64 511)) 30, type := 30, pos := "stages.go:27", after := #[{ on := 12, ground := Go.Ground.data }], guard := none }) (v := .int .u64 ((page % 512 : Nat) : Int)) rfl (by kernel_rfl) (fun _ _ _ h => h) (Or.inl ⟨by rfl, fun W hW => ?_⟩) hS ?_
  · (obtain ⟨hw1, hw2, hw3, hw4⟩ := SecAt.cells hW); go_simp; (try rw [show ((a : Int) / 4096) = ((a / 4096 : Nat) : Int) from by omega]); (try rw [HI.out.2.2]); (try rw [and511 page (by omega)]); (try omega)
  (try simp only [Act.put, List.setIfInBounds_toArray, List.set_cons_succ, List.set_cons_zero])
  refine wpE_only (i := 14) (oi := { dst := some 27, op := Go.Op.call { callee := Go.Callee.value (Go.Operand.tmp 16), args := #[Go.Operand.tmp 17, Go.Operand.tmp 26], argTypes := #[30, 30] }, type := 247, pos := "stages.go:27", after := #[{ on := 3, ground := Go.Ground.data }, { on := 4, ground := Go.Ground.data }, { on := 13, ground := Go.Ground.data }], guard := none }) rfl (by kernel_rfl) (by rfl) (fun K hK => ?_)
  go_simp
  (try rw [show ((page : Int) / 262144) = ((page / 262144 : Nat) : Int) from by omega])
  (try rw [show ((page : Int) / 512 % 512) = ((page / 512 % 512 : Nat) : Int) from by omega])
  (try rw [show ((page : Int) % 512) = ((page % 512 : Nat) : Int) from by omega])
  have hE := page_entry1 (HX.out _ HB3.out.1).1 rb (HX.out _ HB3.out.1).2 f0 (page % 512) (by omega) (by omega)
  rw [HE.out.2.2] at hE
  refine hE.mono ?_; rintro r wf ⟨rfl, hUB⟩
  have hSB : Step (fun _ => False) own _ own wf := ⟨hUB, fun _ _ => rfl⟩
  have hSn := HB3.out.1.trans (hSB.mono (C' := (· = 7)) (fun _ h => h.elim))
  have hS : SecAt wf b rb lf 0 root := hBn.upd hUB (fun h => h)
  have HC3 := Lib.hid (And.intro hSn hS)
  clear hE hUB hSB hSn hBn HB3
  refine hK _ _ hS ?_; clear hK K
  (try simp only [Act.put, List.setIfInBounds_toArray, List.set_cons_succ, List.set_cons_zero])
  refine wpE_take (i := 15) (oi := { dst := some 12, op := Go.Op.move (Go.Operand.tmp 27), type := 247, pos := "stages.go:27", after := #[{ on := 14, ground := Go.Ground.data }], guard := none }) (v := ?_) rfl (by kernel_rfl) (fun _ _ _ h => h) (Or.inl ⟨by rfl, fun W hW => ?_⟩) hS ?_
  rotate_left
  · (obtain ⟨hw1, hw2, hw3, hw4⟩ := SecAt.cells hW); go_simp; (try go_bits); (try rw [if_pos (by omega)]); (try with_reducible rfl)
  (try simp only [Act.put, List.setIfInBounds_toArray, List.set_cons_succ, List.set_cons_zero])
  refine wpE_take (i := 16) (oi := { dst := some 28, op := Go.Op.extract (Go.Operand.tmp 12) 0, type := 30, pos := "stages.go:27", after := #[{ on := 15, ground := Go.Ground.data }], guard := none }) (v := ?_) rfl (by kernel_rfl) (fun _ _ _ h => h) (Or.inl ⟨by rfl, fun W hW => ?_⟩) hS ?_
  rotate_left
  · (obtain ⟨hw1, hw2, hw3, hw4⟩ := SecAt.cells hW); go_simp; (try go_bits); (try rw [if_pos (by omega)]); (try with_reducible rfl)
  (try simp only [Act.put, List.setIfInBounds_toArray, List.set_cons_succ, List.set_cons_zero])
  refine wpE_take (i := 17) (oi := { dst := some 29, op := Go.Op.extract (Go.Operand.tmp 12) 1, type := 3, pos := "stages.go:27", after := #[{ on := 15, ground := Go.Ground.data }, { on := 18, ground := Go.Ground.gcOnly Go.Departure.lateStores }], guard := none }) (v := ?_) rfl (by kernel_rfl) (fun _ _ _ h => h) (Or.inl ⟨by rfl, fun W hW => ?_⟩) hS ?_
  rotate_left
  · (obtain ⟨hw1, hw2, hw3, hw4⟩ := SecAt.cells hW); go_simp; (try go_bits); (try rw [if_pos (by omega)]); (try with_reducible rfl)
  (try simp only [Act.put, List.setIfInBounds_toArray, List.set_cons_succ, List.set_cons_zero])
  refine wpE_only (i := 18) (oi := { dst := some 7, op := Go.Op.assign (Go.Operand.tmp 28), type := 30, pos := "stages.go:27", after := #[{ on := 16, ground := Go.Ground.data }, { on := 14, ground := Go.Ground.chain }, { on := 0, ground := Go.Ground.phase }, { on := 1, ground := Go.Ground.phase }, { on := 2, ground := Go.Ground.phase }, { on := 3, ground := Go.Ground.phase }, { on := 4, ground := Go.Ground.phase }, { on := 5, ground := Go.Ground.phase }, { on := 6, ground := Go.Ground.phase }, { on := 7, ground := Go.Ground.phase }, { on := 8, ground := Go.Ground.phase }, { on := 9, ground := Go.Ground.phase }, { on := 10, ground := Go.Ground.phase }, { on := 11, ground := Go.Ground.phase }, { on := 12, ground := Go.Ground.phase }, { on := 13, ground := Go.Ground.phase }, { on := 14, ground := Go.Ground.phase }, { on := 15, ground := Go.Ground.phase }, { on := 16, ground := Go.Ground.phase }, { on := 17, ground := Go.Ground.textOnly Go.Departure.lateStores }], guard := none }) rfl (by kernel_rfl) (by rfl) (fun K hK => ?_)
  go_simp; (try go_bits); refine hK _ _ hS ?_; clear hK K
  (try simp only [Act.put, List.setIfInBounds_toArray, List.set_cons_succ, List.set_cons_zero])
  refine wpE_last (oi := { dst := some 8, op := Go.Op.assign (Go.Operand.tmp 29), type := 3, pos := "stages.go:27", after := #[{ on := 17, ground := Go.Ground.data }, { on := 18, ground := Go.Ground.chain }, { on := 0, ground := Go.Ground.phase }, { on := 1, ground := Go.Ground.phase }, { on := 2, ground := Go.Ground.phase }, { on := 3, ground := Go.Ground.phase }, { on := 4, ground := Go.Ground.phase }, { on := 5, ground := Go.Ground.phase }, { on := 6, ground := Go.Ground.phase }, { on := 7, ground := Go.Ground.phase }, { on := 8, ground := Go.Ground.phase }, { on := 9, ground := Go.Ground.phase }, { on := 10, ground := Go.Ground.phase }, { on := 11, ground := Go.Ground.phase }, { on := 12, ground := Go.Ground.phase }, { on := 13, ground := Go.Ground.phase }, { on := 14, ground := Go.Ground.phase }, { on := 15, ground := Go.Ground.phase }, { on := 16, ground := Go.Ground.phase }, { on := 17, ground := Go.Ground.phase }, { on := 18, ground := Go.Ground.phase }], guard := none }) rfl (by kernel_rfl) (by kernel_rfl) (by rfl) (fun K hK => ?_)
  go_simp; (try go_bits); refine hK _ _ ?_; clear hK K
  clear hS
  go_wp2_with fail
  refine (wrong_zero _).mono ?_; rintro r wz ⟨rfl, rfl⟩
  go_wp2
  simp only [Exit.jump, Exit.inBlock, Exit.then]
  go_ret
  exact ⟨rfl, HC3.out.1, _, _, HC3.out.2⟩
/-- no page is there -/
inductive NoPg (n : Nat) (m : Nat → Int) (t0 page : Nat) : Prop
  | a (h : lv1 m t0 page = 0)
  | b (f1 f0 : Nat) (hl1 : lv1 m t0 page = f1 * 1024 + 1) (hf1 : f1 < n) (hl0 : lv0 m t0 page = f0 * 1024 + 1) (hf0 : f0 < n) (hle : en m f0 (page % 512) = 0)
theorem wk_down_no {b rb t0 page a : Nat} {lf lv root : Int} (hM : MemAt ramK own c w rp 0 n m) (hc : c ≠ 7) (hR : Blk w rb 24 #[.pointer (some ⟨rp, 0, none⟩)]) (hB : SecAt w b rb lf lv root) (hob : own b = 7) (hor : own rb ≠ 7)
    (hp : page < 134217728) (ha : a / 4096 = page) (ht0 : t0 < n) (hN : NoPg n m t0 page) :
    Calls Try.prog 149 #[.pointer (some ⟨b, 0, none⟩), .int .u64 (t0 : Int), .int .u64 (a : Int)] w fun r w' => r = .returned (.int .i64 1) ∧ Step (· = 7) own w own w' ∧ ∃ lf' lv', SecAt w' b rb lf' lv' root := by
  cases hN with
  | a h => exact wk_down_A hM hc hR hB hob hor hp ha ht0 h
  | b f1 f0 hl1 hf1 hl0 hf0 hle => exact wk_down_B hM hc hR hB hob hor hp ha ht0 hl1 hf1 hl0 hf0 hle
set_option maxHeartbeats 4000000 in
theorem wk_go_no {b rb t0 page a : Nat} {lf lv acc : Int} (hM : MemAt ramK own c w rp 0 n m) (hc : c ≠ 7) (hR : Blk w rb 24 #[.pointer (some ⟨rp, 0, none⟩)]) (hB : SecAt w b rb lf lv (t0 : Int)) (hob : own b = 7) (hor : own rb ≠ 7)
    (hp : page < 134217728) (ha : a / 4096 = page) (ht0 : t0 < n) (ht : 1 ≤ t0) (hN : NoPg n m t0 page) :
    Calls Try.prog 116 #[.pointer (some ⟨b, 0, none⟩), .int .u64 (a : Int), .int .i64 acc] w fun r w' =>
      r = .returned (.tuple #[.int .u64 0, .int .i64 0, .int .i64 2]) ∧ Step (· = 7) own w own w' := by
  have hstd : Step (fun _ => False) own w own w.drew := (Step.refl _ _ _).drew
  have hBd : SecAt w.drew b rb lf lv (t0 : Int) := hB.drew
  have HD := Lib.hid (wk_down_no (hM.step hstd (fun h => h)) hc hR.drew hBd hob hor hp ha ht0 hN)
  have y3 := hB.cells.2.2.2
  have HSD := Lib.hid (hstd.mono (C' := (· = 7)) (fun _ h => h.elim))
  have h00 : ((t0 : Int) == 0) = false := by simp; omega
  have ha39 : decide ((549755813888 : Int) ≤ (a : Int)) = false := by simp; omega
  clear hM hR hB hstd hN hp
  go_enter Try.func116, Try.ntmps116
  go_wp2_with fail
  refine wpE_region (S := fun (W' : World) => W'.cell? ⟨b, 3, none⟩ = some (.int .u64 (t0 : Int))) (s := 9) (by kernel_rfl) ?_
  have hS : (fun (W' : World) => W'.cell? ⟨b, 3, none⟩ = some (.int .u64 (t0 : Int))) _ := y3
  refine wpE_take (i := 0) (oi := { dst := some 17, op := Go.Op.move (Go.Operand.tmp 0), type := 198, pos := "stages.go:66", after := #[], guard := none }) (v := ?_) rfl (by kernel_rfl) (fun _ _ _ h => h) (Or.inl ⟨by rfl, fun W hW => ?_⟩) hS ?_
  rotate_left
  · (have hw1 : W.cell? ⟨b, 3, none⟩ = some (.int .u64 (t0 : Int)) := hW); go_simp; (try go_bits); (try rw [if_pos (by omega)]); (try with_reducible rfl)
  (try simp only [Act.put, List.setIfInBounds_toArray, List.set_cons_succ, List.set_cons_zero])
  refine wpE_take (i := 1) (oi := { dst := some 18, op := Go.Op.nilCheck (Go.Operand.tmp 17), type := 0, pos := "stages.go:66", after := #[{ on := 0, ground := Go.Ground.data }], guard := none }) (v := ?_) rfl (by kernel_rfl) (fun _ _ _ h => h) (Or.inl ⟨by rfl, fun W hW => ?_⟩) hS ?_
  rotate_left
  · (have hw1 : W.cell? ⟨b, 3, none⟩ = some (.int .u64 (t0 : Int)) := hW); go_simp; (try go_bits); (try rw [if_pos (by omega)]); (try with_reducible rfl)
  (try simp only [Act.put, List.setIfInBounds_toArray, List.set_cons_succ, List.set_cons_zero])
  refine wpE_take (i := 2) (oi := { dst := some 19, op := Go.Op.fieldAddr 204 (Go.Operand.tmp 18) 0, type := 0, pos := "stages.go:66", after := #[{ on := 1, ground := Go.Ground.data }], guard := none }) (v := ?_) rfl (by kernel_rfl) (fun _ _ _ h => h) (Or.inl ⟨by rfl, fun W hW => ?_⟩) hS ?_
  rotate_left
  · (have hw1 : W.cell? ⟨b, 3, none⟩ = some (.int .u64 (t0 : Int)) := hW); go_simp; (try go_bits); (try rw [if_pos (by omega)]); (try with_reducible rfl)
  (try simp only [Act.put, List.setIfInBounds_toArray, List.set_cons_succ, List.set_cons_zero])
  refine wpE_take (i := 3) (oi := { dst := some 20, op := Go.Op.move (Go.Operand.tmp 0), type := 198, pos := "stages.go:66", after := #[], guard := none }) (v := ?_) rfl (by kernel_rfl) (fun _ _ _ h => h) (Or.inl ⟨by rfl, fun W hW => ?_⟩) hS ?_
  rotate_left
  · (have hw1 : W.cell? ⟨b, 3, none⟩ = some (.int .u64 (t0 : Int)) := hW); go_simp; (try go_bits); (try rw [if_pos (by omega)]); (try with_reducible rfl)
  (try simp only [Act.put, List.setIfInBounds_toArray, List.set_cons_succ, List.set_cons_zero])
  refine wpE_take (i := 4) (oi := { dst := some 21, op := Go.Op.nilCheck (Go.Operand.tmp 20), type := 0, pos := "stages.go:66", after := #[{ on := 3, ground := Go.Ground.data }], guard := none }) (v := ?_) rfl (by kernel_rfl) (fun _ _ _ h => h) (Or.inl ⟨by rfl, fun W hW => ?_⟩) hS ?_
  rotate_left
  · (have hw1 : W.cell? ⟨b, 3, none⟩ = some (.int .u64 (t0 : Int)) := hW); go_simp; (try go_bits); (try rw [if_pos (by omega)]); (try with_reducible rfl)
  (try simp only [Act.put, List.setIfInBounds_toArray, List.set_cons_succ, List.set_cons_zero])
  refine wpE_take (i := 5) (oi := { dst := some 22, op := Go.Op.fieldAddr 204 (Go.Operand.tmp 21) 1, type := 0, pos := "stages.go:66", after := #[{ on := 4, ground := Go.Ground.data }], guard := none }) (v := ?_) rfl (by kernel_rfl) (fun _ _ _ h => h) (Or.inl ⟨by rfl, fun W hW => ?_⟩) hS ?_
  rotate_left
  · (have hw1 : W.cell? ⟨b, 3, none⟩ = some (.int .u64 (t0 : Int)) := hW); go_simp; (try go_bits); (try rw [if_pos (by omega)]); (try with_reducible rfl)
  (try simp only [Act.put, List.setIfInBounds_toArray, List.set_cons_succ, List.set_cons_zero])
  refine wpE_take (i := 6) (oi := { dst := some 23, op := Go.Op.load 30 (Go.Operand.tmp 22), type := 30, pos := "stages.go:66", after := #[{ on := 5, ground := Go.Ground.data }], guard := none }) (v := ?_) rfl (by kernel_rfl) (fun _ _ _ h => h) (Or.inl ⟨by rfl, fun W hW => ?_⟩) hS ?_
  rotate_left
  · (have hw1 : W.cell? ⟨b, 3, none⟩ = some (.int .u64 (t0 : Int)) := hW); go_simp; (try go_bits); (try rw [if_pos (by omega)]); (try with_reducible rfl)
  (try simp only [Act.put, List.setIfInBounds_toArray, List.set_cons_succ, List.set_cons_zero])
  refine wpE_take (i := 7) (oi := { dst := some 24, op := Go.Op.move (Go.Operand.tmp 1), type := 30, pos := "stages.go:66", after := #[], guard := none }) (v := ?_) rfl (by kernel_rfl) (fun _ _ _ h => h) (Or.inl ⟨by rfl, fun W hW => ?_⟩) hS ?_
  rotate_left
  · (have hw1 : W.cell? ⟨b, 3, none⟩ = some (.int .u64 (t0 : Int)) := hW); go_simp; (try go_bits); (try rw [if_pos (by omega)]); (try with_reducible rfl)
  (try simp only [Act.put, List.setIfInBounds_toArray, List.set_cons_succ, List.set_cons_zero])
  refine wpE_only (i := 8) (oi := { dst := some 25, op := Go.Op.call { callee := Go.Callee.value (Go.Operand.func 149), args := #[Go.Operand.tmp 19, Go.Operand.tmp 23, Go.Operand.tmp 24], argTypes := #[202, 30, 30] }, type := 3, pos := "stages.go:66", after := #[{ on := 2, ground := Go.Ground.data }, { on := 6, ground := Go.Ground.data }, { on := 7, ground := Go.Ground.data }], guard := none }) rfl (by kernel_rfl) (by rfl) (fun K hK => ?_)
  go_simp
  refine HD.out.mono ?_; rintro q w2 ⟨rfl, hS2, lf2, lv2, hB2⟩
  have hS : w2.cell? ⟨b, 3, none⟩ = some (.int .u64 (t0 : Int)) := hB2.cells.2.2.2
  have H2 := Lib.hid (HSD.out.trans hS2)
  clear hS2 hB2 HD HSD
  refine hK _ _ hS ?_; clear hK K
  (try simp only [Act.put, List.setIfInBounds_toArray, List.set_cons_succ, List.set_cons_zero])
  refine wpE_last (oi := { dst := some 8, op := Go.Op.assign (Go.Operand.tmp 25), type := 3, pos := "stages.go:66", after := #[{ on := 8, ground := Go.Ground.data }, { on := 8, ground := Go.Ground.chain }, { on := 0, ground := Go.Ground.phase }, { on := 1, ground := Go.Ground.phase }, { on := 2, ground := Go.Ground.phase }, { on := 3, ground := Go.Ground.phase }, { on := 4, ground := Go.Ground.phase }, { on := 5, ground := Go.Ground.phase }, { on := 6, ground := Go.Ground.phase }, { on := 7, ground := Go.Ground.phase }, { on := 8, ground := Go.Ground.phase }], guard := none }) rfl (by kernel_rfl) (by kernel_rfl) (by rfl) (fun K hK => ?_)
  go_simp; (try go_bits); refine hK _ _ ?_; clear hK K
  clear hS
  go_wp2
  go_ret3
  exact ⟨rfl, H2.out⟩
set_option maxHeartbeats 2000000 in
theorem page_Guest_no {t0 page a : Nat} {acc : Int} (hM : MemAt ramK own c w rp 0 n m) (hc : c ≠ 7) (hp : page < 134217728) (ha : a / 4096 = page) (ht0 : t0 < n) (ht : 1 ≤ t0) (hN : NoPg n m t0 page) :
    Calls Try.prog 56 #[.pointer (some ⟨rp, 0, none⟩), .int .u64 (t0 : Int), .int .u64 (a : Int), .int .i64 acc] w fun r w' =>
      r = .returned (.tuple #[.int .u64 0, .int .i64 0, .int .i64 2]) ∧ Upd (fun _ => False) w w' := by
  obtain ⟨own0, h0, h7⟩ : ∃ own0 : Nat → Nat, (∀ b, own b = c → own0 b = c) ∧ ∀ b, own0 b ≠ 7 := ⟨fun b => if own b = 7 then 0 else own b, fun b e => by show (if own b = 7 then 0 else own b) = c; rw [if_neg (by omega)]; exact e, fun b => by show (if own b = 7 then 0 else own b) ≠ 7; split <;> omega⟩
  have hM0 := hM.recol h0
  have HM := Lib.hid hM0
  clear hM hM0 h0
  go_enter Try.func56, Try.ntmps56
  go_wp2_with fail
  refine (page_entry rp _).mono ?_; rintro q w1 ⟨rb, rfl, hU1, hlrb, hBr⟩
  have hS1 : Step (fun _ => False) own0 w own0 w1 := ⟨hU1, fun _ _ => rfl⟩
  have hst : Step (fun _ => False) own0 w1 (ext own0 w1 7) (w1.alloc (.cells #[.func (.func 148) #[] #[.pointer (some ⟨rb, 0, none⟩)], .int .u64 0, .int .i64 0, .int .u64 (t0 : Int)] 204)) := ⟨(Upd.refl _ _).alloc _, fun b hb => ext_old _ _ _ hb⟩
  have hG := wk_go_no (acc := acc) (HM.out.step (hS1.trans hst) (fun h => h)) hc (hBr.alloc _) (show SecAt _ w1.heap.size rb 0 0 (t0 : Int) from Blk.new w1 204 _) (ext_new _ _ _ (Nat.le_refl _)) (by rw [ext_old own0 w1 7 hBr.lt]; exact h7 rb) hp ha ht0 ht hN
  have HG := Lib.hid hG
  have HU := Lib.hid (hS1.trans hst)
  clear hS1 hst hG hU1 hBr HM hN hp
  go_wp2_with fail
  refine HG.out.mono ?_; rintro q w2 ⟨rfl, hS2⟩
  have HE := Lib.hid (HU.out.upd.trans' hS2.upd (fun i hi e => h7 i (by rw [← HU.out.old i hi]; exact e)))
  clear hS2 HG HU
  go_wp2
  go_ret3
  exact ⟨rfl, HE.out⟩
end
end Go.Proofs.Ytpodeclkgcgpgaa
