import Derived.Test.YtpodeclkgcgpgaaSu
/- StageRights' facts. -/
namespace Go.Proofs.Ytpodeclkgcgpgaa
set_option linter.unusedVariables false
set_option linter.unusedSimpArgs false
open Go.RowKit
set_option maxRecDepth 100000

theorem TabOk.keep {D : Nat → Prop} {n t0 page f1 f0 fr : Nat} {p : Int} {m m' : Nat → Int} (h : TabOk n m t0 page f1 f0 fr p) (hm : ∀ x, ¬ D (x / 4096) → m' x = m x) (h0 : ¬ D t0) (h1 : ¬ D f1) (h2 : ¬ D f0) : TabOk n m' t0 page f1 f0 fr p := by
  have hp := h.hp
  have e1 : lv1 m' t0 page = lv1 m t0 page := en_keep hm h0 (by omega)
  have e0 : lv0 m' t0 page = lv0 m t0 page := by
    unfold lv0; rw [e1]; exact en_keep hm (by rw [h.l1, show (f1 * 1024 + 1) / 1024 = f1 from by omega]; exact h1) (Nat.mod_lt _ (by omega))
  exact ⟨hp, h.h0, e1.trans h.l1, h.h1, e0.trans h.l0, h.h2, (en_keep hm h2 (Nat.mod_lt _ (by omega))).trans h.lf, h.pm, h.fr⟩
def mR (x : Int) : PSt := mapS (sF 0) [1] 1 524288 3 x
def mP (x y : Int) : Nat → Int := enS (mR x).m 5 0 (((3 * 1024 + 209 : Nat) : Int) + y)
theorem mR_dn {x : Int} (hx : permOk x) : dnP (mR x).m 1 524288 = (5, 0) := by
  rcases hx with rfl | rfl | rfl | rfl | rfl <;> kernel_rfl
theorem mR_pg {x : Int} (hx : permOk x) : PgOk 16 (mR x).m 1 524288 3 x := by
  rcases hx with rfl | rfl | rfl | rfl | rfl
  · have e1 : lv1 (mR 2).m 1 524288 = 4097 := by kernel_rfl
    have e0 : lv0 (mR 2).m 1 524288 = 5121 := by kernel_rfl
    exact ⟨by decide, ⟨by decide, by rw [e1]; intro _; decide, by rw [e0]; intro _ _; decide⟩, by kernel_rfl, by decide⟩
  · have e1 : lv1 (mR 6).m 1 524288 = 4097 := by kernel_rfl
    have e0 : lv0 (mR 6).m 1 524288 = 5121 := by kernel_rfl
    exact ⟨by decide, ⟨by decide, by rw [e1]; intro _; decide, by rw [e0]; intro _ _; decide⟩, by kernel_rfl, by decide⟩
  · have e1 : lv1 (mR 8).m 1 524288 = 4097 := by kernel_rfl
    have e0 : lv0 (mR 8).m 1 524288 = 5121 := by kernel_rfl
    exact ⟨by decide, ⟨by decide, by rw [e1]; intro _; decide, by rw [e0]; intro _ _; decide⟩, by kernel_rfl, by decide⟩
  · have e1 : lv1 (mR 10).m 1 524288 = 4097 := by kernel_rfl
    have e0 : lv0 (mR 10).m 1 524288 = 5121 := by kernel_rfl
    exact ⟨by decide, ⟨by decide, by rw [e1]; intro _; decide, by rw [e0]; intro _ _; decide⟩, by kernel_rfl, by decide⟩
  · have e1 : lv1 (mR 14).m 1 524288 = 4097 := by kernel_rfl
    have e0 : lv0 (mR 14).m 1 524288 = 5121 := by kernel_rfl
    exact ⟨by decide, ⟨by decide, by rw [e1]; intro _; decide, by rw [e0]; intro _ _; decide⟩, by kernel_rfl, by decide⟩
/-- what the tables say once the rights are turned -/
theorem mP_all {x y : Int} (hx : permOk x) (hy : permOk y) : lv1 (mP x y) 1 524288 = 4097 ∧ lv0 (mP x y) 1 524288 = 5121 ∧ fndP (mP x y) 1 524288 = (524288, 3, y, true) ∧ en (mP x y) 5 0 = 3 * 1024 + 209 + y.toNat ∧
    lv1 (mP x y) 1 524289 = 4097 ∧ lv0 (mP x y) 1 524289 = 5121 ∧ dnP (mP x y) 1 524289 = (5, 0) ∧ (fndP (mP x y) 1 524289).2.2.2 = false := by
  rcases hx with rfl | rfl | rfl | rfl | rfl <;> rcases hy with rfl | rfl | rfl | rfl | rfl <;> exact ⟨by kernel_rfl, by kernel_rfl, by kernel_rfl, by kernel_rfl, by kernel_rfl, by kernel_rfl, by kernel_rfl, by kernel_rfl⟩
def Kept3 (x y : Int) (m' : Nat → Int) : Prop := ∀ z, ¬ (z / 4096 = 3) → m' z = mP x y z
theorem Kept3.pg {x y : Int} (hx : permOk x) (hy : permOk y) {m' : Nat → Int} (h : Kept3 x y m') : PgOk 16 m' 1 524288 3 y ∧ TabOk 16 m' 1 524288 4 5 3 y ∧ DnOk 16 m' 1 524289 ∧ (fndP m' 1 524289).2.2.2 = false := by
  obtain ⟨e1, e0, ef, el, g1, g0, gd, gf⟩ := mP_all hx hy
  have p0 : PgOk 16 (mP x y) 1 524288 3 y := ⟨by decide, ⟨by decide, by rw [e1]; intro _; decide, by rw [e0]; intro _ _; decide⟩, ef, by decide⟩
  have t0 : TabOk 16 (mP x y) 1 524288 4 5 3 y := ⟨by decide, by decide, e1, by decide, e0, by decide, el, hy, by decide⟩
  have d0 : DnOk 16 (mP x y) 1 524289 := ⟨by decide, by rw [g1]; intro _; decide, by rw [g0]; intro _ _; decide⟩
  have k := fnd_keep (D := fun z => z = 3) (by decide) h (by decide) (by rw [g1]; decide) (by rw [gd]; decide) d0
  exact ⟨p0.keep (D := fun z => z = 3) h (by decide) (by rw [e1]; decide) (by rw [e0]; decide), t0.keep (D := fun z => z = 3) h (by decide) (by decide) (by decide), k.1, by rw [k.2]; exact gf⟩
theorem want_let {y : Int} (hy : permOk y) : (bits .and .i64 y 8 != 0) = letP y 1 ∧ (bits .and .i64 y 2 != 0) = letP y 2 ∧ (bits .and .i64 y 4 != 0) = letP y 3 := by
  rcases hy with rfl | rfl | rfl | rfl | rfl <;> exact ⟨by decide, by decide, by decide⟩
section
variable {own : Nat → Nat} {c rp sp pp n t0 : Nat} {vmid : Int} {ts : List Int} {m : Nat → Int} {w : World}
theorem sp_Root (hM : MemAt ramK own c w rp 0 n m) (hS : SpAt own w sp rp pp vmid ((t0 : Int) :: ts)) (ht : t0 < n) :
    Calls Try.prog 57 #[.pointer (some ⟨sp, 0, none⟩)] w fun e w' => e = .returned (.int .u64 (t0 : Int)) ∧ Step (fun _ => False) own w own w' := by
  have hn := hM.sizes.2.2
  have hstd : Step (fun _ => False) own w own w.drew := (Step.refl _ _ _).drew
  have HN := Lib.hid (view_number (hM.step hstd (fun h => h)) t0 (by omega))
  have HSD := Lib.hid hstd
  obtain ⟨g, cap, s0, s1, s2, s3, sg, lsp, lg⟩ := hS.cells
  have hlen1 : (0 : Int) < ((ts.length + 1 : Nat) : Int) := by omega
  clear hM hS hstd s1 s2
  go_enter Try.func57, Try.ntmps57
  go_wp2_with fail
  refine wpE_region (S := fun (W' : World) => W'.cell? ⟨sp, 0, none⟩ = some (.pointer (some ⟨rp, 0, none⟩)) ∧ W'.cell? ⟨sp, 3, none⟩ = some (.slice (some ⟨g, 0, none⟩) (ts.length + 1) cap) ∧ W'.cell? ⟨g, 0, none⟩ = some (.int .i64 (t0 : Int))) (s := 11) (by kernel_rfl) ?_
  have hS : (fun (W' : World) => W'.cell? ⟨sp, 0, none⟩ = some (.pointer (some ⟨rp, 0, none⟩)) ∧ W'.cell? ⟨sp, 3, none⟩ = some (.slice (some ⟨g, 0, none⟩) (ts.length + 1) cap) ∧ W'.cell? ⟨g, 0, none⟩ = some (.int .i64 (t0 : Int))) _ := ⟨s0, s3, sg⟩
  refine wpE_take (i := 0) (oi := { dst := some 3, op := Go.Op.move (Go.Operand.tmp 0), type := 59, pos := "stage.go:113", after := #[], guard := none }) (v := ?_) rfl (by kernel_rfl) (fun _ _ _ h => h) (Or.inl ⟨by rfl, fun W hW => ?_⟩) hS ?_
  rotate_left
  · obtain ⟨hw1, hw2, hw3⟩ := hW; go_simp; (try go_bits); (try rw [if_pos (by omega)]); (try with_reducible rfl)
  (try simp only [Act.put, List.setIfInBounds_toArray, List.set_cons_succ, List.set_cons_zero])
  refine wpE_take (i := 1) (oi := { dst := some 4, op := Go.Op.nilCheck (Go.Operand.tmp 3), type := 0, pos := "stage.go:113", after := #[{ on := 0, ground := Go.Ground.data }], guard := none }) (v := ?_) rfl (by kernel_rfl) (fun _ _ _ h => h) (Or.inl ⟨by rfl, fun W hW => ?_⟩) hS ?_
  rotate_left
  · obtain ⟨hw1, hw2, hw3⟩ := hW; go_simp; (try go_bits); (try rw [if_pos (by omega)]); (try with_reducible rfl)
  (try simp only [Act.put, List.setIfInBounds_toArray, List.set_cons_succ, List.set_cons_zero])
  refine wpE_take (i := 2) (oi := { dst := some 5, op := Go.Op.fieldAddr 181 (Go.Operand.tmp 4) 0, type := 0, pos := "stage.go:113", after := #[{ on := 1, ground := Go.Ground.data }], guard := none }) (v := ?_) rfl (by kernel_rfl) (fun _ _ _ h => h) (Or.inl ⟨by rfl, fun W hW => ?_⟩) hS ?_
  rotate_left
  · obtain ⟨hw1, hw2, hw3⟩ := hW; go_simp; (try go_bits); (try rw [if_pos (by omega)]); (try with_reducible rfl)
  (try simp only [Act.put, List.setIfInBounds_toArray, List.set_cons_succ, List.set_cons_zero])
  refine wpE_take (i := 3) (oi := { dst := some 6, op := Go.Op.load 179 (Go.Operand.tmp 5), type := 179, pos := "stage.go:113", after := #[{ on := 2, ground := Go.Ground.data }], guard := none }) (v := viewV rp) rfl (by kernel_rfl) (fun _ _ _ h => h) (Or.inl ⟨by rfl, fun W hW => ?_⟩) hS ?_
  · obtain ⟨hw1, hw2, hw3⟩ := hW; go_simp; (try go_bits); (try rw [if_pos (by omega)]); (try with_reducible rfl)
  (try simp only [Act.put, List.setIfInBounds_toArray, List.set_cons_succ, List.set_cons_zero])
  refine wpE_take (i := 4) (oi := { dst := some 7, op := Go.Op.move (Go.Operand.tmp 0), type := 59, pos := "stage.go:113", after := #[], guard := none }) (v := ?_) rfl (by kernel_rfl) (fun _ _ _ h => h) (Or.inl ⟨by rfl, fun W hW => ?_⟩) hS ?_
  rotate_left
  · obtain ⟨hw1, hw2, hw3⟩ := hW; go_simp; (try go_bits); (try rw [if_pos (by omega)]); (try with_reducible rfl)
  (try simp only [Act.put, List.setIfInBounds_toArray, List.set_cons_succ, List.set_cons_zero])
  refine wpE_take (i := 5) (oi := { dst := some 8, op := Go.Op.nilCheck (Go.Operand.tmp 7), type := 0, pos := "stage.go:113", after := #[{ on := 4, ground := Go.Ground.data }], guard := none }) (v := ?_) rfl (by kernel_rfl) (fun _ _ _ h => h) (Or.inl ⟨by rfl, fun W hW => ?_⟩) hS ?_
  rotate_left
  · obtain ⟨hw1, hw2, hw3⟩ := hW; go_simp; (try go_bits); (try rw [if_pos (by omega)]); (try with_reducible rfl)
  (try simp only [Act.put, List.setIfInBounds_toArray, List.set_cons_succ, List.set_cons_zero])
  refine wpE_take (i := 6) (oi := { dst := some 9, op := Go.Op.fieldAddr 181 (Go.Operand.tmp 8) 3, type := 0, pos := "stage.go:113", after := #[{ on := 5, ground := Go.Ground.data }], guard := none }) (v := ?_) rfl (by kernel_rfl) (fun _ _ _ h => h) (Or.inl ⟨by rfl, fun W hW => ?_⟩) hS ?_
  rotate_left
  · obtain ⟨hw1, hw2, hw3⟩ := hW; go_simp; (try go_bits); (try rw [if_pos (by omega)]); (try with_reducible rfl)
  (try simp only [Act.put, List.setIfInBounds_toArray, List.set_cons_succ, List.set_cons_zero])
  refine wpE_take (i := 7) (oi := { dst := some 10, op := Go.Op.load 45 (Go.Operand.tmp 9), type := 45, pos := "stage.go:113", after := #[{ on := 6, ground := Go.Ground.data }], guard := none }) (v := ?_) rfl (by kernel_rfl) (fun _ _ _ h => h) (Or.inl ⟨by rfl, fun W hW => ?_⟩) hS ?_
  rotate_left
  · obtain ⟨hw1, hw2, hw3⟩ := hW; go_simp; (try go_bits); (try rw [if_pos (by omega)]); (try with_reducible rfl)
  (try simp only [Act.put, List.setIfInBounds_toArray, List.set_cons_succ, List.set_cons_zero])
  refine wpE_take (i := 8) (oi := { dst := some 11, op := Go.Op.indexAddr 45 (Go.Operand.tmp 10) (Go.Operand.const (Go.Value.int Go.IntKind.i64 0)), type := 0, pos := "stage.go:113", after := #[{ on := 7, ground := Go.Ground.data }], guard := none }) (v := ?_) rfl (by kernel_rfl) (fun _ _ _ h => h) (Or.inl ⟨by rfl, fun W hW => ?_⟩) hS ?_
  rotate_left
  · obtain ⟨hw1, hw2, hw3⟩ := hW; go_simp; (try go_bits); (try rw [if_pos (by omega)]); (try with_reducible rfl)
  (try simp only [Act.put, List.setIfInBounds_toArray, List.set_cons_succ, List.set_cons_zero])
  refine wpE_take (i := 9) (oi := { dst := some 12, op := Go.Op.load 3 (Go.Operand.tmp 11), type := 3, pos := "stage.go:113", after := #[{ on := 8, ground := Go.Ground.data }], guard := none }) (v := ?_) rfl (by kernel_rfl) (fun _ _ _ h => h) (Or.inl ⟨by rfl, fun W hW => ?_⟩) hS ?_
  rotate_left
  · obtain ⟨hw1, hw2, hw3⟩ := hW; go_simp; (try go_bits); (try rw [if_pos (by omega)]); (try with_reducible rfl)
  (try simp only [Act.put, List.setIfInBounds_toArray, List.set_cons_succ, List.set_cons_zero])
  refine wpE_only (i := 10) (oi := { dst := some 13, op := Go.Op.call { callee := Go.Callee.value (Go.Operand.func 97), args := #[Go.Operand.tmp 6, Go.Operand.tmp 12], argTypes := #[179, 3] }, type := 30, pos := "stage.go:113", after := #[{ on := 3, ground := Go.Ground.data }, { on := 9, ground := Go.Ground.data }], guard := none }) rfl (by kernel_rfl) (by rfl) (fun K hK => ?_)
  go_simp
  refine HN.out.mono ?_; rintro q w2 ⟨rfl, hS2⟩
  have hS : w2.cell? ⟨sp, 0, none⟩ = some (.pointer (some ⟨rp, 0, none⟩)) ∧ w2.cell? ⟨sp, 3, none⟩ = some (.slice (some ⟨g, 0, none⟩) (ts.length + 1) cap) ∧ w2.cell? ⟨g, 0, none⟩ = some (.int .i64 (t0 : Int)) :=
  ⟨(hS2.upd.cell (p := ⟨sp, 0, none⟩) lsp (fun h => h)).trans s0, (hS2.upd.cell (p := ⟨sp, 3, none⟩) lsp (fun h => h)).trans s3, (hS2.upd.cell (p := ⟨g, 0, none⟩) lg (fun h => h)).trans sg⟩
  have H2 := Lib.hid (HSD.out.trans hS2)
  clear hS2 HN HSD
  refine hK _ _ hS ?_; clear hK K
  (try simp only [Act.put, List.setIfInBounds_toArray, List.set_cons_succ, List.set_cons_zero])
  refine wpE_last (oi := { dst := some 2, op := Go.Op.assign (Go.Operand.tmp 13), type := 30, pos := "stage.go:113", after := #[{ on := 10, ground := Go.Ground.data }, { on := 10, ground := Go.Ground.chain }, { on := 0, ground := Go.Ground.phase }, { on := 1, ground := Go.Ground.phase }, { on := 2, ground := Go.Ground.phase }, { on := 3, ground := Go.Ground.phase }, { on := 4, ground := Go.Ground.phase }, { on := 5, ground := Go.Ground.phase }, { on := 6, ground := Go.Ground.phase }, { on := 7, ground := Go.Ground.phase }, { on := 8, ground := Go.Ground.phase }, { on := 9, ground := Go.Ground.phase }, { on := 10, ground := Go.Ground.phase }], guard := none }) rfl (by kernel_rfl) (by kernel_rfl) (by rfl) (fun K hK => ?_)
  go_simp; (try go_bits); refine hK _ _ ?_; clear hK K
  go_wp2
  go_ret
  exact ⟨rfl, H2.out⟩
end
end Go.Proofs.Ytpodeclkgcgpgaa
