import Derived.Test.YtpodeclkgcgpgaaSt
/- What hardware reads: down. -/
namespace Go.Proofs.Ytpodeclkgcgpgaa
set_option linter.unusedVariables false
set_option linter.unusedSimpArgs false
open Go.RowKit
set_option maxRecDepth 100000

theorem Exit.jump_mono {l : Nat} {J J' : Act → World → Prop} {Q : Exit → Act → World → Prop} (h : ∀ a w, J a w → J' a w) : ∀ e a w, Exit.jump l J Q e a w → Exit.jump l J' Q e a w := by
  intro e a w hq
  cases e with
  | goto l' => exact ⟨hq.1, h _ _ hq.2⟩
  | _ => exact hq
theorem exists_min {p : Nat → Prop} (h : ∃ k, p k) : ∃ k, p k ∧ ∀ j, j < k → ¬ p j := by
  obtain ⟨k, hk⟩ := h
  induction k using Nat.strongRecOn with
  | _ k ih =>
    by_cases hx : ∃ j, j < k ∧ p j
    · obtain ⟨j, hj, hp⟩ := hx
      exact ih j hj hp
    · exact ⟨k, hk, fun j hj hp => hx ⟨j, hj, hp⟩⟩
/-- so many jumps back -/
def jumpsN (P : Program) (rest : Code) (l : Nat) (Q : Exit → Act → World → Prop) : Nat → Act → World → Prop
  | 0, _, _ => False
  | k + 1, a, w => rest.wp P (Exit.jump l (jumpsN P rest l Q k) Q) a w
theorem jumpsN_succ {P : Program} {rest : Code} {l k : Nat} {Q : Exit → Act → World → Prop} {a : Act} {w : World} : jumpsN P rest l Q (k + 1) a w = rest.wp P (Exit.jump l (jumpsN P rest l Q k) Q) a w := rfl
theorem and_zero (x : Int) (hx : 0 ≤ x ∧ x < 18446744073709551616) : bits .and .u64 x 0 = 0 := by
  obtain ⟨X, rfl⟩ := Int.eq_ofNat_of_zero_le hx.1
  have := hx.2
  rw [show (0 : Int) = ((0 : Nat) : Int) from rfl, u64_and_nat _ _ (by omega) (by decide), Nat.and_zero]
theorem wp_scope_unroll {P : Program} {a : Act} {w : World} {Q : Exit → Act → World → Prop} {c rest : Code} (l n : Nat) (hf : findLabel c l = some rest)
    (first : c.wp P (Exit.jump l (jumpsN P rest l Q n) Q) a w) : (Code.scope c).wp P Q a w := by
  classical
  refine wp_scope_jumps l (fun a w => ∃ k, jumpsN P rest l Q k a w) (fun a w => if h : ∃ k, jumpsN P rest l Q k a w then Classical.choose (exists_min h) else 0) hf (Code.wp_mono (Exit.jump_mono fun a w h => ⟨n, h⟩) first) ?_
  intro a w hJ
  have hmu : (if h : ∃ k, jumpsN P rest l Q k a w then Classical.choose (exists_min h) else 0) = Classical.choose (exists_min hJ) := dif_pos hJ
  rw [hmu]
  obtain ⟨h1, h2⟩ := Classical.choose_spec (exists_min hJ)
  generalize Classical.choose (exists_min hJ) = k at *
  cases k with
  | zero => exact h1.elim
  | succ k =>
    refine Code.wp_mono (Exit.jump_mono fun a' w' h => ⟨⟨k, h⟩, ?_⟩) h1
    have hex : ∃ k, jumpsN P rest l Q k a' w' := ⟨k, h⟩
    show (if h : ∃ k, jumpsN P rest l Q k a' w' then Classical.choose (exists_min h) else 0) < k + 1
    rw [dif_pos hex]
    obtain ⟨h3, h4⟩ := Classical.choose_spec (exists_min hex)
    rcases Nat.lt_or_ge (Classical.choose (exists_min hex)) (k + 1) with h5 | h5
    · exact h5
    · exact absurd h (h4 k (by omega))
theorem idx_at (a page : Nat) (hp : page < 134217728) (ha : a / 4096 = page) : bits .and .u64 ((a / 1073741824 : Nat) : Int) 511 = ((page / 262144 : Nat) : Int) ∧ bits .and .u64 ((a / 2097152 : Nat) : Int) 511 = ((page / 512 % 512 : Nat) : Int) ∧ bits .and .u64 ((a / 4096 : Nat) : Int) 511 = ((page % 512 : Nat) : Int) := by
  have e2 : a / 1073741824 = page / 262144 := by omega
  have e1 : a / 2097152 = page / 512 := by omega
  rw [e2, e1, ha]
  refine ⟨?_, ?_, ?_⟩
  · rw [and511 _ (by omega), Nat.mod_eq_of_lt (by omega)]
  · exact and511 _ (by omega)
  · exact and511 _ (by omega)
section
variable {own : Nat → Nat} {c rp n : Nat} {m : Nat → Int} {w : World}
set_option maxHeartbeats 4000000 in
theorem wk_down {b rb t0 page a f1 f0 e fr : Nat} {lf lv root p : Int} (hM : MemAt ramK own c w rp 0 n m) (hc : c ≠ 7) (hR : Blk w rb 24 #[.pointer (some ⟨rp, 0, none⟩)]) (hB : SecAt w b rb lf lv root) (hob : own b = 7) (hor : own rb ≠ 7)
    (hp : page < 134217728) (ha : a / 4096 = page) (ht0 : t0 < n) (hl1 : lv1 m t0 page = f1 * 1024 + 1) (hf1 : f1 < n) (hl0 : lv0 m t0 page = f0 * 1024 + 1) (hf0 : f0 < n) (hle : en m f0 (page % 512) = e) (hL : LeafF e fr p) (hpm : permOk p) :
    Calls Try.prog 149 #[.pointer (some ⟨b, 0, none⟩), .int .u64 (t0 : Int), .int .u64 (a : Int)] w fun r w' => r = .returned (.int .i64 0) ∧ Step (· = 7) own w own w' ∧ SecAt w' b rb (e : Int) 0 root := by
  have hn := hM.sizes.2.2
  have hP1 := ptrF f1 (by omega)
  have hP0 := ptrF f0 (by omega)
  have hE2 : en m t0 (page / 262144) = f1 * 1024 + 1 := hl1
  have hE1 : en m f1 (page / 512 % 512) = f0 * 1024 + 1 := by
    unfold lv0 at hl0
    rw [hl1, show (f1 * 1024 + 1) / 1024 = f1 from by omega] at hl0
    exact hl0
  have HI := Lib.hid (idx_at a page hp ha)
  have HS : ∀ W : World, Step (· = 7) own w own W → MemAt ramK own c W rp 0 n m ∧ Blk W rb 24 #[.pointer (some ⟨rp, 0, none⟩)] := by
    intro W hS
    exact ⟨hM.step hS hc, hR.upd hS.upd hor⟩
  have c0 := hB.cell 0
  have HX := Lib.hid HS
  have HL := Lib.hid hL
  obtain ⟨e2, he2⟩ : ∃ e2, f1 * 1024 + 1 = e2 := ⟨_, rfl⟩
  obtain ⟨e1, he1⟩ : ∃ e1, f0 * 1024 + 1 = e1 := ⟨_, rfl⟩
  rw [he2] at hP1 hE2
  rw [he1] at hP0 hE1
  have HP1 := Lib.hid hP1
  have HP0 := Lib.hid hP0
  have HE := Lib.hid (And.intro hE2 (And.intro hE1 hle))
  have H0 := Lib.hid hB
  clear hM hR HS hL hl1 hl0 he2 he1 hP1 hP0 hE2 hE1 hle hB c0
  go_enter Try.func149, Try.ntmps149
  have z2 := H0.out.frozen 2
  have y2 := H0.out.cells.2.2.1
  have hlt := H0.out.lt
  go_wp2
  refine wp_scope_unroll (rest := ?rest) 0 (0 + 1 + 1) ?hf ?_
  rotate_left
  · rfl
  rotate_left
  go_wp2
  go_step3
  go_wp2_with fail
  have hst : Step (· = 7) own w own (w.setCell ⟨b, 2, none⟩ (.int .i64 2)) := ⟨(Upd.refl _ _).setCell (.inl hob) _, fun _ _ => rfl⟩
  have hBn : SecAt (w.setCell ⟨b, 2, none⟩ (.int .i64 2)) b rb lf 2 root := H0.out.set_ 2 (.int .i64 2)
  have HA1 := Lib.hid (And.intro hst hBn)
  clear hst hBn z2 y2 hlt H0
  generalize (w.setCell ⟨b, 2, none⟩ (.int .i64 2)) = wa at *
  have hstd : Step (fun _ => False) own wa own wa.drew := (Step.refl _ _ _).drew
  have hSn := HA1.out.1.trans (hstd.mono (C' := (· = 7)) (fun _ h => h.elim))
  have hBn : SecAt wa.drew b rb lf 2 root := HA1.out.2.drew
  have HB1 := Lib.hid (And.intro hSn hBn)
  clear hstd hSn HA1
  refine wpE_region (S := fun (W' : World) => SecAt W' b rb lf 2 root) (s := 19) (by kernel_rfl) ?_
  have hS : (fun (W' : World) => SecAt W' b rb lf 2 root) _ := hBn
  refine wpE_take (i := 0) (oi := { dst := some 13, op := Go.Op.move (Go.Operand.tmp 0), type := 246, pos := "stages.go:27", after := #[], guard := none }) (v := ?_) rfl (by kernel_rfl) (fun _ _ _ h => h) (Or.inl ⟨by rfl, fun W hW => ?_⟩) hS ?_
  rotate_left
  · (obtain ⟨hw1, hw2, hw3, hw4⟩ := SecAt.cells hW); go_simp; (try go_bits); (try rw [if_pos (by omega)]); (try with_reducible rfl)
  (try simp only [Act.put, List.setIfInBounds_toArray, List.set_cons_succ, List.set_cons_zero])
  refine wpE_take (i := 1) (oi := { dst := some 14, op := Go.Op.nilCheck (Go.Operand.tmp 13), type := 0, pos := "stages.go:27", after := #[{ on := 0, ground := Go.Ground.data }], guard := none }) (v := ?_) rfl (by kernel_rfl) (fun _ _ _ h => h) (Or.inl ⟨by rfl, fun W hW => ?_⟩) hS ?_
  rotate_left
  · (obtain ⟨hw1, hw2, hw3, hw4⟩ := SecAt.cells hW); go_simp; (try go_bits); (try rw [if_pos (by omega)]); (try with_reducible rfl)
  (try simp only [Act.put, List.setIfInBounds_toArray, List.set_cons_succ, List.set_cons_zero])
  refine wpE_take (i := 2) (oi := { dst := some 15, op := Go.Op.fieldAddr 202 (Go.Operand.tmp 14) 0, type := 0, pos := "stages.go:27", after := #[{ on := 1, ground := Go.Ground.data }], guard := none }) (v := ?_) rfl (by kernel_rfl) (fun _ _ _ h => h) (Or.inl ⟨by rfl, fun W hW => ?_⟩) hS ?_
  rotate_left
  · (obtain ⟨hw1, hw2, hw3, hw4⟩ := SecAt.cells hW); go_simp; (try go_bits); (try rw [if_pos (by omega)]); (try with_reducible rfl)
  (try simp only [Act.put, List.setIfInBounds_toArray, List.set_cons_succ, List.set_cons_zero])
  refine wpE_take (i := 3) (oi := { dst := some 16, op := Go.Op.load 199 (Go.Operand.tmp 15), type := 199, pos := "stages.go:27", after := #[{ on := 2, ground := Go.Ground.data }], guard := none }) (v := .func (.func 148) #[] #[.pointer (some ⟨rb, 0, none⟩)]) rfl (by kernel_rfl) (fun _ _ _ h => h) (Or.inl ⟨by rfl, fun W hW => ?_⟩) hS ?_
  · (obtain ⟨hw1, hw2, hw3, hw4⟩ := SecAt.cells hW); go_simp; (try go_bits); (try rw [if_pos (by omega)]); (try with_reducible rfl)
  (try simp only [Act.put, List.setIfInBounds_toArray, List.set_cons_succ, List.set_cons_zero])
  refine wpE_take (i := 4) (oi := { dst := some 17, op := Go.Op.move (Go.Operand.tmp 1), type := 30, pos := "stages.go:27", after := #[], guard := none }) (v := ?_) rfl (by kernel_rfl) (fun _ _ _ h => h) (Or.inl ⟨by rfl, fun W hW => ?_⟩) hS ?_
  rotate_left
  · (obtain ⟨hw1, hw2, hw3, hw4⟩ := SecAt.cells hW); go_simp; (try go_bits); (try rw [if_pos (by omega)]); (try with_reducible rfl)
  (try simp only [Act.put, List.setIfInBounds_toArray, List.set_cons_succ, List.set_cons_zero])
  refine wpE_take (i := 5) (oi := { dst := some 18, op := Go.Op.move (Go.Operand.tmp 2), type := 30, pos := "stages.go:27", after := #[], guard := none }) (v := ?_) rfl (by kernel_rfl) (fun _ _ _ h => h) (Or.inl ⟨by rfl, fun W hW => ?_⟩) hS ?_
  rotate_left
  · (obtain ⟨hw1, hw2, hw3, hw4⟩ := SecAt.cells hW); go_simp; (try go_bits); (try rw [if_pos (by omega)]); (try with_reducible rfl)
  (try simp only [Act.put, List.setIfInBounds_toArray, List.set_cons_succ, List.set_cons_zero])
  refine wpE_take (i := 6) (oi := { dst := some 19, op := Go.Op.move (Go.Operand.tmp 0), type := 246, pos := "stages.go:27", after := #[], guard := none }) (v := ?_) rfl (by kernel_rfl) (fun _ _ _ h => h) (Or.inl ⟨by rfl, fun W hW => ?_⟩) hS ?_
  rotate_left
  · (obtain ⟨hw1, hw2, hw3, hw4⟩ := SecAt.cells hW); go_simp; (try go_bits); (try rw [if_pos (by omega)]); (try with_reducible rfl)
  (try simp only [Act.put, List.setIfInBounds_toArray, List.set_cons_succ, List.set_cons_zero])
  refine wpE_take (i := 7) (oi := { dst := some 20, op := Go.Op.nilCheck (Go.Operand.tmp 19), type := 0, pos := "stages.go:27", after := #[{ on := 6, ground := Go.Ground.data }], guard := none }) (v := ?_) rfl (by kernel_rfl) (fun _ _ _ h => h) (Or.inl ⟨by rfl, fun W hW => ?_⟩) hS ?_
  rotate_left
  · (obtain ⟨hw1, hw2, hw3, hw4⟩ := SecAt.cells hW); go_simp; (try go_bits); (try rw [if_pos (by omega)]); (try with_reducible rfl)
  (try simp only [Act.put, List.setIfInBounds_toArray, List.set_cons_succ, List.set_cons_zero])
  refine wpE_take (i := 8) (oi := { dst := some 21, op := Go.Op.fieldAddr 202 (Go.Operand.tmp 20) 2, type := 0, pos := "stages.go:27", after := #[{ on := 7, ground := Go.Ground.data }], guard := none }) (v := ?_) rfl (by kernel_rfl) (fun _ _ _ h => h) (Or.inl ⟨by rfl, fun W hW => ?_⟩) hS ?_
  rotate_left
  · (obtain ⟨hw1, hw2, hw3, hw4⟩ := SecAt.cells hW); go_simp; (try go_bits); (try rw [if_pos (by omega)]); (try with_reducible rfl)
  (try simp only [Act.put, List.setIfInBounds_toArray, List.set_cons_succ, List.set_cons_zero])
  refine wpE_take (i := 9) (oi := { dst := some 22, op := Go.Op.load 3 (Go.Operand.tmp 21), type := 3, pos := "stages.go:27", after := #[{ on := 8, ground := Go.Ground.data }], guard := none }) (v := .int .i64 2) rfl (by kernel_rfl) (fun _ _ _ h => h) (Or.inl ⟨by rfl, fun W hW => ?_⟩) hS ?_
  · (obtain ⟨hw1, hw2, hw3, hw4⟩ := SecAt.cells hW); go_simp; (try go_bits); (try rw [if_pos (by omega)]); (try with_reducible rfl)
  (try simp only [Act.put, List.setIfInBounds_toArray, List.set_cons_succ, List.set_cons_zero])
  refine wpE_take (i := 10) (oi := { dst := some 23, op := Go.Op.binOp Go.BinOp.mul 3 (Go.Operand.const (Go.Value.int Go.IntKind.i64 9)) (Go.Operand.tmp 22) 3, type := 3, pos := "stages.go:27", after := #[{ on := 9, ground := Go.Ground.data }], guard := none }) (v := ?_) rfl (by kernel_rfl) (fun _ _ _ h => h) (Or.inl ⟨by rfl, fun W hW => ?_⟩) hS ?_
  rotate_left
  · (obtain ⟨hw1, hw2, hw3, hw4⟩ := SecAt.cells hW); go_simp; (try go_bits); (try rw [if_pos (by omega)]); (try with_reducible rfl)
  (try simp only [Act.put, List.setIfInBounds_toArray, List.set_cons_succ, List.set_cons_zero])
  refine wpE_take (i := 11) (oi := { dst := some 24, op := Go.Op.binOp Go.BinOp.add 3 (Go.Operand.const (Go.Value.int Go.IntKind.i64 12)) (Go.Operand.tmp 23) 3, type := 3, pos := "stages.go:27", after := #[{ on := 10, ground := Go.Ground.data }], guard := none }) (v := ?_) rfl (by kernel_rfl) (fun _ _ _ h => h) (Or.inl ⟨by rfl, fun W hW => ?_⟩) hS ?_
  rotate_left
  · (obtain ⟨hw1, hw2, hw3, hw4⟩ := SecAt.cells hW); go_simp; (try go_bits); (try rw [if_pos (by omega)]); (try with_reducible rfl)
  (try simp only [Act.put, List.setIfInBounds_toArray, List.set_cons_succ, List.set_cons_zero])
  refine wpE_take (i := 12) (oi := { dst := some 25, op := Go.Op.binOp Go.BinOp.shr 30 (Go.Operand.tmp 18) (Go.Operand.tmp 24) 3, type := 30, pos := "stages.go:27", after := #[{ on := 5, ground := Go.Ground.data }, { on := 11, ground := Go.Ground.data }], guard := none }) (v := .int .u64 ((a / 1073741824 : Nat) : Int)) rfl (by kernel_rfl) (fun _ _ _ h => h) (Or.inl ⟨by rfl, fun W hW => ?_⟩) hS ?_
  · (obtain ⟨hw1, hw2, hw3, hw4⟩ := SecAt.cells hW); go_simp; (try omega); (try trivial)
  (try simp only [Act.put, List.setIfInBounds_toArray, List.set_cons_succ, List.set_cons_zero])
  refine wpE_take (i := 13) (oi := { dst := some 26, op := Go.Op.binOp Go.BinOp.and 30 (Go.Operand.tmp 25) (Go.Operand.const (Go.Value.int Go.IntKind.u64 511)) 30, type := 30, pos := "stages.go:27", after := #[{ on := 12, ground := Go.Ground.data }], guard := none }) (v := .int .u64 ((page / 262144 : Nat) : Int)) rfl (by kernel_rfl) (fun _ _ _ h => h) (Or.inl ⟨by rfl, fun W hW => ?_⟩) hS ?_
  · (obtain ⟨hw1, hw2, hw3, hw4⟩ := SecAt.cells hW); go_simp; (try rw [show ((a : Int) / 1073741824) = ((a / 1073741824 : Nat) : Int) from by omega]); (try rw [HI.out.1]); (try omega)
  (try simp only [Act.put, List.setIfInBounds_toArray, List.set_cons_succ, List.set_cons_zero])
  refine wpE_only (i := 14) (oi := { dst := some 27, op := Go.Op.call { callee := Go.Callee.value (Go.Operand.tmp 16), args := #[Go.Operand.tmp 17, Go.Operand.tmp 26], argTypes := #[30, 30] }, type := 247, pos := "stages.go:27", after := #[{ on := 3, ground := Go.Ground.data }, { on := 4, ground := Go.Ground.data }, { on := 13, ground := Go.Ground.data }], guard := none }) rfl (by kernel_rfl) (by rfl) (fun K hK => ?_)
  go_simp
  (try rw [show ((page : Int) / 262144) = ((page / 262144 : Nat) : Int) from by omega])
  (try rw [show ((page : Int) / 512 % 512) = ((page / 512 % 512 : Nat) : Int) from by omega])
  (try rw [show ((page : Int) % 512) = ((page % 512 : Nat) : Int) from by omega])
  have hE := page_entry1 (HX.out _ HB1.out.1).1 rb (HX.out _ HB1.out.1).2 t0 (page / 262144) (by omega) (by omega)
  rw [HE.out.1] at hE
  refine hE.mono ?_; rintro r wb ⟨rfl, hUB⟩
  have hSB : Step (fun _ => False) own _ own wb := ⟨hUB, fun _ _ => rfl⟩
  have hSn := HB1.out.1.trans (hSB.mono (C' := (· = 7)) (fun _ h => h.elim))
  have hS : SecAt wb b rb lf 2 root := hBn.upd hUB (fun h => h)
  have HC1 := Lib.hid (And.intro hSn hS)
  clear hE hUB hSB hSn hBn HB1
  refine hK _ _ hS ?_; clear hK K
  (try simp only [Act.put, List.setIfInBounds_toArray, List.set_cons_succ, List.set_cons_zero])
  refine wpE_take (i := 15) (oi := { dst := some 12, op := Go.Op.move (Go.Operand.tmp 27), type := 247, pos := "stages.go:27", after := #[{ on := 14, ground := Go.Ground.data }], guard := none }) (v := ?_) rfl (by kernel_rfl) (fun _ _ _ h => h) (Or.inl ⟨by rfl, fun W hW => ?_⟩) hS ?_
  rotate_left
  · (obtain ⟨hw1, hw2, hw3, hw4⟩ := SecAt.cells hW); go_simp; (try go_bits); (try rw [if_pos (by omega)]); (try with_reducible rfl)
  (try simp only [Act.put, List.setIfInBounds_toArray, List.set_cons_succ, List.set_cons_zero])
  refine wpE_take (i := 16) (oi := { dst := some 28, op := Go.Op.extract (Go.Operand.tmp 12) 0, type := 30, pos := "stages.go:27", after := #[{ on := 15, ground := Go.Ground.data }], guard := none }) (v := ?_) rfl (by kernel_rfl) (fun _ _ _ h => h) (Or.inl ⟨by rfl, fun W hW => ?_⟩) hS ?_
  rotate_left
  · (obtain ⟨hw1, hw2, hw3, hw4⟩ := SecAt.cells hW); go_simp; (try go_bits); (try rw [if_pos (by omega)]); (try with_reducible rfl)
  (try simp only [Act.put, List.setIfInBounds_toArray, List.set_cons_succ, List.set_cons_zero])
  refine wpE_take (i := 17) (oi := { dst := some 29, op := Go.Op.extract (Go.Operand.tmp 12) 1, type := 3, pos := "stages.go:27", after := #[{ on := 15, ground := Go.Ground.data }, { on := 18, ground := Go.Ground.gcOnly Go.Departure.lateStores }], guard := none }) (v := ?_) rfl (by kernel_rfl) (fun _ _ _ h => h) (Or.inl ⟨by rfl, fun W hW => ?_⟩) hS ?_
  rotate_left
  · (obtain ⟨hw1, hw2, hw3, hw4⟩ := SecAt.cells hW); go_simp; (try go_bits); (try rw [if_pos (by omega)]); (try with_reducible rfl)
  (try simp only [Act.put, List.setIfInBounds_toArray, List.set_cons_succ, List.set_cons_zero])
  refine wpE_only (i := 18) (oi := { dst := some 7, op := Go.Op.assign (Go.Operand.tmp 28), type := 30, pos := "stages.go:27", after := #[{ on := 16, ground := Go.Ground.data }, { on := 14, ground := Go.Ground.chain }, { on := 0, ground := Go.Ground.phase }, { on := 1, ground := Go.Ground.phase }, { on := 2, ground := Go.Ground.phase }, { on := 3, ground := Go.Ground.phase }, { on := 4, ground := Go.Ground.phase }, { on := 5, ground := Go.Ground.phase }, { on := 6, ground := Go.Ground.phase }, { on := 7, ground := Go.Ground.phase }, { on := 8, ground := Go.Ground.phase }, { on := 9, ground := Go.Ground.phase }, { on := 10, ground := Go.Ground.phase }, { on := 11, ground := Go.Ground.phase }, { on := 12, ground := Go.Ground.phase }, { on := 13, ground := Go.Ground.phase }, { on := 14, ground := Go.Ground.phase }, { on := 15, ground := Go.Ground.phase }, { on := 16, ground := Go.Ground.phase }, { on := 17, ground := Go.Ground.textOnly Go.Departure.lateStores }], guard := none }) rfl (by kernel_rfl) (by rfl) (fun K hK => ?_)
  go_simp; (try go_bits); refine hK _ _ hS ?_; clear hK K
  (try simp only [Act.put, List.setIfInBounds_toArray, List.set_cons_succ, List.set_cons_zero])
  refine wpE_last (oi := { dst := some 8, op := Go.Op.assign (Go.Operand.tmp 29), type := 3, pos := "stages.go:27", after := #[{ on := 17, ground := Go.Ground.data }, { on := 18, ground := Go.Ground.chain }, { on := 0, ground := Go.Ground.phase }, { on := 1, ground := Go.Ground.phase }, { on := 2, ground := Go.Ground.phase }, { on := 3, ground := Go.Ground.phase }, { on := 4, ground := Go.Ground.phase }, { on := 5, ground := Go.Ground.phase }, { on := 6, ground := Go.Ground.phase }, { on := 7, ground := Go.Ground.phase }, { on := 8, ground := Go.Ground.phase }, { on := 9, ground := Go.Ground.phase }, { on := 10, ground := Go.Ground.phase }, { on := 11, ground := Go.Ground.phase }, { on := 12, ground := Go.Ground.phase }, { on := 13, ground := Go.Ground.phase }, { on := 14, ground := Go.Ground.phase }, { on := 15, ground := Go.Ground.phase }, { on := 16, ground := Go.Ground.phase }, { on := 17, ground := Go.Ground.phase }, { on := 18, ground := Go.Ground.phase }], guard := none }) rfl (by kernel_rfl) (by kernel_rfl) (by rfl) (fun K hK => ?_)
  go_simp; (try go_bits); refine hK _ _ ?_; clear hK K
  clear hS
  obtain ⟨lt, a1, a6, a54, a10, nm⟩ := HP1.out
  have HWr := Lib.hid (wrong_no lt a1 a6 rfl a54)
  have z2 := HC1.out.2.frozen 2
  have y2 := HC1.out.2.cells.2.2.1
  have hlt := HC1.out.2.lt
  clear a1 a6 a54
  go_wp2_with fail
  refine (HWr.out _).mono ?_; rintro r wz ⟨rfl, rfl⟩
  clear HWr
  go_wp2
  go_step3
  refine ⟨rfl, ?_⟩
  rw [jumpsN_succ]
  have hst : Step (· = 7) own wb own (wb.setCell ⟨b, 2, none⟩ (.int .i64 1)) := ⟨(Upd.refl _ _).setCell (.inl hob) _, fun _ _ => rfl⟩
  have hBn : SecAt (wb.setCell ⟨b, 2, none⟩ (.int .i64 1)) b rb lf 1 root := HC1.out.2.set_ 2 (.int .i64 1)
  have HA2 := Lib.hid (And.intro (HC1.out.1.trans hst) hBn)
  clear hst hBn z2 y2 hlt HC1 lt a10 nm
  generalize (wb.setCell ⟨b, 2, none⟩ (.int .i64 1)) = wc at *
  go_wp2_with fail
  have hstd : Step (fun _ => False) own wc own wc.drew := (Step.refl _ _ _).drew
  have hSn := HA2.out.1.trans (hstd.mono (C' := (· = 7)) (fun _ h => h.elim))
  have hBn : SecAt wc.drew b rb lf 1 root := HA2.out.2.drew
  have HB2 := Lib.hid (And.intro hSn hBn)
  clear hstd hSn HA2
  refine wpE_region (S := fun (W' : World) => SecAt W' b rb lf 1 root) (s := 19) (by kernel_rfl) ?_
  have hS : (fun (W' : World) => SecAt W' b rb lf 1 root) _ := hBn
  refine wpE_take (i := 0) (oi := { dst := some 13, op := Go.Op.move (Go.Operand.tmp 0), type := 246, pos := "stages.go:27", after := #[], guard := none }) (v := ?_) rfl (by kernel_rfl) (fun _ _ _ h => h) (Or.inl ⟨by rfl, fun W hW => ?_⟩) hS ?_
  rotate_left
  · (obtain ⟨hw1, hw2, hw3, hw4⟩ := SecAt.cells hW); go_simp; (try go_bits); (try rw [if_pos (by omega)]); (try with_reducible rfl)
  (try simp only [Act.put, List.setIfInBounds_toArray, List.set_cons_succ, List.set_cons_zero])
  refine wpE_take (i := 1) (oi := { dst := some 14, op := Go.Op.nilCheck (Go.Operand.tmp 13), type := 0, pos := "stages.go:27", after := #[{ on := 0, ground := Go.Ground.data }], guard := none }) (v := ?_) rfl (by kernel_rfl) (fun _ _ _ h => h) (Or.inl ⟨by rfl, fun W hW => ?_⟩) hS ?_
  rotate_left
  · (obtain ⟨hw1, hw2, hw3, hw4⟩ := SecAt.cells hW); go_simp; (try go_bits); (try rw [if_pos (by omega)]); (try with_reducible rfl)
  (try simp only [Act.put, List.setIfInBounds_toArray, List.set_cons_succ, List.set_cons_zero])
  refine wpE_take (i := 2) (oi := { dst := some 15, op := Go.Op.fieldAddr 202 (Go.Operand.tmp 14) 0, type := 0, pos := "stages.go:27", after := #[{ on := 1, ground := Go.Ground.data }], guard := none }) (v := ?_) rfl (by kernel_rfl) (fun _ _ _ h => h) (Or.inl ⟨by rfl, fun W hW => ?_⟩) hS ?_
  rotate_left
  · (obtain ⟨hw1, hw2, hw3, hw4⟩ := SecAt.cells hW); go_simp; (try go_bits); (try rw [if_pos (by omega)]); (try with_reducible rfl)
  (try simp only [Act.put, List.setIfInBounds_toArray, List.set_cons_succ, List.set_cons_zero])
  refine wpE_take (i := 3) (oi := { dst := some 16, op := Go.Op.load 199 (Go.Operand.tmp 15), type := 199, pos := "stages.go:27", after := #[{ on := 2, ground := Go.Ground.data }], guard := none }) (v := .func (.func 148) #[] #[.pointer (some ⟨rb, 0, none⟩)]) rfl (by kernel_rfl) (fun _ _ _ h => h) (Or.inl ⟨by rfl, fun W hW => ?_⟩) hS ?_
  · (obtain ⟨hw1, hw2, hw3, hw4⟩ := SecAt.cells hW); go_simp; (try go_bits); (try rw [if_pos (by omega)]); (try with_reducible rfl)
  (try simp only [Act.put, List.setIfInBounds_toArray, List.set_cons_succ, List.set_cons_zero])
  refine wpE_take (i := 4) (oi := { dst := some 17, op := Go.Op.move (Go.Operand.tmp 1), type := 30, pos := "stages.go:27", after := #[], guard := none }) (v := ?_) rfl (by kernel_rfl) (fun _ _ _ h => h) (Or.inl ⟨by rfl, fun W hW => ?_⟩) hS ?_
  rotate_left
  · (obtain ⟨hw1, hw2, hw3, hw4⟩ := SecAt.cells hW); go_simp; (try go_bits); (try rw [if_pos (by omega)]); (try with_reducible rfl)
  (try simp only [Act.put, List.setIfInBounds_toArray, List.set_cons_succ, List.set_cons_zero])
  refine wpE_take (i := 5) (oi := { dst := some 18, op := Go.Op.move (Go.Operand.tmp 2), type := 30, pos := "stages.go:27", after := #[], guard := none }) (v := ?_) rfl (by kernel_rfl) (fun _ _ _ h => h) (Or.inl ⟨by rfl, fun W hW => ?_⟩) hS ?_
  rotate_left
  · (obtain ⟨hw1, hw2, hw3, hw4⟩ := SecAt.cells hW); go_simp; (try go_bits); (try rw [if_pos (by omega)]); (try with_reducible rfl)
  (try simp only [Act.put, List.setIfInBounds_toArray, List.set_cons_succ, List.set_cons_zero])
  refine wpE_take (i := 6) (oi := { dst := some 19, op := Go.Op.move (Go.Operand.tmp 0), type := 246, pos := "stages.go:27", after := #[], guard := none }) (v := ?_) rfl (by kernel_rfl) (fun _ _ _ h => h) (Or.inl ⟨by rfl, fun W hW => ?_⟩) hS ?_
  rotate_left
  · (obtain ⟨hw1, hw2, hw3, hw4⟩ := SecAt.cells hW); go_simp; (try go_bits); (try rw [if_pos (by omega)]); (try with_reducible rfl)
  (try simp only [Act.put, List.setIfInBounds_toArray, List.set_cons_succ, List.set_cons_zero])
  refine wpE_take (i := 7) (oi := { dst := some 20, op := Go.Op.nilCheck (Go.Operand.tmp 19), type := 0, pos := "stages.go:27", after := #[{ on := 6, ground := Go.Ground.data }], guard := none }) (v := ?_) rfl (by kernel_rfl) (fun _ _ _ h => h) (Or.inl ⟨by rfl, fun W hW => ?_⟩) hS ?_
  rotate_left
  · (obtain ⟨hw1, hw2, hw3, hw4⟩ := SecAt.cells hW); go_simp; (try go_bits); (try rw [if_pos (by omega)]); (try with_reducible rfl)
  (try simp only [Act.put, List.setIfInBounds_toArray, List.set_cons_succ, List.set_cons_zero])
  refine wpE_take (i := 8) (oi := { dst := some 21, op := Go.Op.fieldAddr 202 (Go.Operand.tmp 20) 2, type := 0, pos := "stages.go:27", after := #[{ on := 7, ground := Go.Ground.data }], guard := none }) (v := ?_) rfl (by kernel_rfl) (fun _ _ _ h => h) (Or.inl ⟨by rfl, fun W hW => ?_⟩) hS ?_
  rotate_left
  · (obtain ⟨hw1, hw2, hw3, hw4⟩ := SecAt.cells hW); go_simp; (try go_bits); (try rw [if_pos (by omega)]); (try with_reducible rfl)
  (try simp only [Act.put, List.setIfInBounds_toArray, List.set_cons_succ, List.set_cons_zero])
  refine wpE_take (i := 9) (oi := { dst := some 22, op := Go.Op.load 3 (Go.Operand.tmp 21), type := 3, pos := "stages.go:27", after := #[{ on := 8, ground := Go.Ground.data }], guard := none }) (v := .int .i64 1) rfl (by kernel_rfl) (fun _ _ _ h => h) (Or.inl ⟨by rfl, fun W hW => ?_⟩) hS ?_
  · (obtain ⟨hw1, hw2, hw3, hw4⟩ := SecAt.cells hW); go_simp; (try go_bits); (try rw [if_pos (by omega)]); (try with_reducible rfl)
  (try simp only [Act.put, List.setIfInBounds_toArray, List.set_cons_succ, List.set_cons_zero])
  refine wpE_take (i := 10) (oi := { dst := some 23, op := Go.Op.binOp Go.BinOp.mul 3 (Go.Operand.const (Go.Value.int Go.IntKind.i64 9)) (Go.Operand.tmp 22) 3, type := 3, pos := "stages.go:27", after := #[{ on := 9, ground := Go.Ground.data }], guard := none }) (v := ?_) rfl (by kernel_rfl) (fun _ _ _ h => h) (Or.inl ⟨by rfl, fun W hW => ?_⟩) hS ?_
  rotate_left
  · (obtain ⟨hw1, hw2, hw3, hw4⟩ := SecAt.cells hW); go_simp; (try go_bits); (try rw [if_pos (by omega)]); (try with_reducible rfl)
  (try simp only [Act.put, List.setIfInBounds_toArray, List.set_cons_succ, List.set_cons_zero])
  refine wpE_take (i := 11) (oi := { dst := some 24, op := Go.Op.binOp Go.BinOp.add 3 (Go.Operand.const (Go.Value.int Go.IntKind.i64 12)) (Go.Operand.tmp 23) 3, type := 3, pos := "stages.go:27", after := #[{ on := 10, ground := Go.Ground.data }], guard := none }) (v := ?_) rfl (by kernel_rfl) (fun _ _ _ h => h) (Or.inl ⟨by rfl, fun W hW => ?_⟩) hS ?_
  rotate_left
  · (obtain ⟨hw1, hw2, hw3, hw4⟩ := SecAt.cells hW); go_simp; (try go_bits); (try rw [if_pos (by omega)]); (try with_reducible rfl)
  (try simp only [Act.put, List.setIfInBounds_toArray, List.set_cons_succ, List.set_cons_zero])
  refine wpE_take (i := 12) (oi := { dst := some 25, op := Go.Op.binOp Go.BinOp.shr 30 (Go.Operand.tmp 18) (Go.Operand.tmp 24) 3, type := 30, pos := "stages.go:27", after := #[{ on := 5, ground := Go.Ground.data }, { on := 11, ground := Go.Ground.data }], guard := none }) (v := .int .u64 ((a / 2097152 : Nat) : Int)) rfl (by kernel_rfl) (fun _ _ _ h => h) (Or.inl ⟨by rfl, fun W hW => ?_⟩) hS ?_
  · (obtain ⟨hw1, hw2, hw3, hw4⟩ := SecAt.cells hW); go_simp; (try omega); (try trivial)
  (try simp only [Act.put, List.setIfInBounds_toArray, List.set_cons_succ, List.set_cons_zero])
  refine wpE_take (i := 13) (oi := { dst := some 26, op := Go.Op.binOp Go.BinOp.and 30 (Go.Operand.tmp 25) (Go.Operand.const (Go.Value.int Go.IntKind.u64 511)) 30, type := 30, pos := "stages.go:27", after := #[{ on := 12, ground := Go.Ground.data }], guard := none }) (v := .int .u64 ((page / 512 % 512 : Nat) : Int)) rfl (by kernel_rfl) (fun _ _ _ h => h) (Or.inl ⟨by rfl, fun W hW => ?_⟩) hS ?_
  · (obtain ⟨hw1, hw2, hw3, hw4⟩ := SecAt.cells hW); go_simp; (try rw [show ((a : Int) / 2097152) = ((a / 2097152 : Nat) : Int) from by omega]); (try rw [HI.out.2.1]); (try omega)
  (try simp only [Act.put, List.setIfInBounds_toArray, List.set_cons_succ, List.set_cons_zero])
  refine wpE_only (i := 14) (oi := { dst := some 27, op := Go.Op.call { callee := Go.Callee.value (Go.Operand.tmp 16), args := #[Go.Operand.tmp 17, Go.Operand.tmp 26], argTypes := #[30, 30] }, type := 247, pos := "stages.go:27", after := #[{ on := 3, ground := Go.Ground.data }, { on := 4, ground := Go.Ground.data }, { on := 13, ground := Go.Ground.data }], guard := none }) rfl (by kernel_rfl) (by rfl) (fun K hK => ?_)
  go_simp
  (try rw [show ((page : Int) / 262144) = ((page / 262144 : Nat) : Int) from by omega])
  (try rw [show ((page : Int) / 512 % 512) = ((page / 512 % 512 : Nat) : Int) from by omega])
  (try rw [show ((page : Int) % 512) = ((page % 512 : Nat) : Int) from by omega])
  have hE := page_entry1 (HX.out _ HB2.out.1).1 rb (HX.out _ HB2.out.1).2 f1 (page / 512 % 512) (by omega) (by omega)
  rw [HE.out.2.1] at hE
  refine hE.mono ?_; rintro r wd ⟨rfl, hUB⟩
  have hSB : Step (fun _ => False) own _ own wd := ⟨hUB, fun _ _ => rfl⟩
  have hSn := HB2.out.1.trans (hSB.mono (C' := (· = 7)) (fun _ h => h.elim))
  have hS : SecAt wd b rb lf 1 root := hBn.upd hUB (fun h => h)
  have HC2 := Lib.hid (And.intro hSn hS)
  clear hE hUB hSB hSn hBn HB2
  refine hK _ _ hS ?_; clear hK K
  (try simp only [Act.put, List.setIfInBounds_toArray, List.set_cons_succ, List.set_cons_zero])
  refine wpE_take (i := 15) (oi := { dst := some 12, op := Go.Op.move (Go.Operand.tmp 27), type := 247, pos := "stages.go:27", after := #[{ on := 14, ground := Go.Ground.data }], guard := none }) (v := ?_) rfl (by kernel_rfl) (fun _ _ _ h => h) (Or.inl ⟨by rfl, fun W hW => ?_⟩) hS ?_
  rotate_left
  · (obtain ⟨hw1, hw2, hw3, hw4⟩ := SecAt.cells hW); go_simp; (try go_bits); (try rw [if_pos (by omega)]); (try with_reducible rfl)
  (try simp only [Act.put, List.setIfInBounds_toArray, List.set_cons_succ, List.set_cons_zero])
  refine wpE_take (i := 16) (oi := { dst := some 28, op := Go.Op.extract (Go.Operand.tmp 12) 0, type := 30, pos := "stages.go:27", after := #[{ on := 15, ground := Go.Ground.data }], guard := none }) (v := ?_) rfl (by kernel_rfl) (fun _ _ _ h => h) (Or.inl ⟨by rfl, fun W hW => ?_⟩) hS ?_
  rotate_left
  · (obtain ⟨hw1, hw2, hw3, hw4⟩ := SecAt.cells hW); go_simp; (try go_bits); (try rw [if_pos (by omega)]); (try with_reducible rfl)
  (try simp only [Act.put, List.setIfInBounds_toArray, List.set_cons_succ, List.set_cons_zero])
  refine wpE_take (i := 17) (oi := { dst := some 29, op := Go.Op.extract (Go.Operand.tmp 12) 1, type := 3, pos := "stages.go:27", after := #[{ on := 15, ground := Go.Ground.data }, { on := 18, ground := Go.Ground.gcOnly Go.Departure.lateStores }], guard := none }) (v := ?_) rfl (by kernel_rfl) (fun _ _ _ h => h) (Or.inl ⟨by rfl, fun W hW => ?_⟩) hS ?_
  rotate_left
  · (obtain ⟨hw1, hw2, hw3, hw4⟩ := SecAt.cells hW); go_simp; (try go_bits); (try rw [if_pos (by omega)]); (try with_reducible rfl)
  (try simp only [Act.put, List.setIfInBounds_toArray, List.set_cons_succ, List.set_cons_zero])
  refine wpE_only (i := 18) (oi := { dst := some 7, op := Go.Op.assign (Go.Operand.tmp 28), type := 30, pos := "stages.go:27", after := #[{ on := 16, ground := Go.Ground.data }, { on := 14, ground := Go.Ground.chain }, { on := 0, ground := Go.Ground.phase }, { on := 1, ground := Go.Ground.phase }, { on := 2, ground := Go.Ground.phase }, { on := 3, ground := Go.Ground.phase }, { on := 4, ground := Go.Ground.phase }, { on := 5, ground := Go.Ground.phase }, { on := 6, ground := Go.Ground.phase }, { on := 7, ground := Go.Ground.phase }, { on := 8, ground := Go.Ground.phase }, { on := 9, ground := Go.Ground.phase }, { on := 10, ground := Go.Ground.phase }, { on := 11, ground := Go.Ground.phase }, { on := 12, ground := Go.Ground.phase }, { on := 13, ground := Go.Ground.phase }, { on := 14, ground := Go.Ground.phase }, { on := 15, ground := Go.Ground.phase }, { on := 16, ground := Go.Ground.phase }, { on := 17, ground := Go.Ground.textOnly Go.Departure.lateStores }], guard := none }) rfl (by kernel_rfl) (by rfl) (fun K hK => ?_)
  go_simp; (try go_bits); refine hK _ _ hS ?_; clear hK K
  (try simp only [Act.put, List.setIfInBounds_toArray, List.set_cons_succ, List.set_cons_zero])
  refine wpE_last (oi := { dst := some 8, op := Go.Op.assign (Go.Operand.tmp 29), type := 3, pos := "stages.go:27", after := #[{ on := 17, ground := Go.Ground.data }, { on := 18, ground := Go.Ground.chain }, { on := 0, ground := Go.Ground.phase }, { on := 1, ground := Go.Ground.phase }, { on := 2, ground := Go.Ground.phase }, { on := 3, ground := Go.Ground.phase }, { on := 4, ground := Go.Ground.phase }, { on := 5, ground := Go.Ground.phase }, { on := 6, ground := Go.Ground.phase }, { on := 7, ground := Go.Ground.phase }, { on := 8, ground := Go.Ground.phase }, { on := 9, ground := Go.Ground.phase }, { on := 10, ground := Go.Ground.phase }, { on := 11, ground := Go.Ground.phase }, { on := 12, ground := Go.Ground.phase }, { on := 13, ground := Go.Ground.phase }, { on := 14, ground := Go.Ground.phase }, { on := 15, ground := Go.Ground.phase }, { on := 16, ground := Go.Ground.phase }, { on := 17, ground := Go.Ground.phase }, { on := 18, ground := Go.Ground.phase }], guard := none }) rfl (by kernel_rfl) (by kernel_rfl) (by rfl) (fun K hK => ?_)
  go_simp; (try go_bits); refine hK _ _ ?_; clear hK K
  clear hS
  obtain ⟨lt, a1, a6, a54, a10, nm⟩ := HP0.out
  have HWr := Lib.hid (wrong_no lt a1 a6 rfl a54)
  have z2 := HC2.out.2.frozen 2
  have y2 := HC2.out.2.cells.2.2.1
  have hlt := HC2.out.2.lt
  clear a1 a6 a54
  go_wp2_with fail
  refine (HWr.out _).mono ?_; rintro r wz ⟨rfl, rfl⟩
  clear HWr
  go_wp2
  go_step3
  refine ⟨rfl, ?_⟩
  rw [jumpsN_succ]
  have hst : Step (· = 7) own wd own (wd.setCell ⟨b, 2, none⟩ (.int .i64 0)) := ⟨(Upd.refl _ _).setCell (.inl hob) _, fun _ _ => rfl⟩
  have hBn : SecAt (wd.setCell ⟨b, 2, none⟩ (.int .i64 0)) b rb lf 0 root := HC2.out.2.set_ 2 (.int .i64 0)
  have HA3 := Lib.hid (And.intro (HC2.out.1.trans hst) hBn)
  clear hst hBn z2 y2 hlt HC2 lt a10 nm
  generalize (wd.setCell ⟨b, 2, none⟩ (.int .i64 0)) = we at *
  go_wp2_with fail
  have hstd : Step (fun _ => False) own we own we.drew := (Step.refl _ _ _).drew
  have hSn := HA3.out.1.trans (hstd.mono (C' := (· = 7)) (fun _ h => h.elim))
  have hBn : SecAt we.drew b rb lf 0 root := HA3.out.2.drew
  have HB3 := Lib.hid (And.intro hSn hBn)
  clear hstd hSn HA3
  refine wpE_region (S := fun (W' : World) => SecAt W' b rb lf 0 root) (s := 19) (by kernel_rfl) ?_
  have hS : (fun (W' : World) => SecAt W' b rb lf 0 root) _ := hBn
  refine wpE_take (i := 0) (oi := { dst := some 13, op := Go.Op.move (Go.Operand.tmp 0), type := 246, pos := "stages.go:27", after := #[], guard := none }) (v := ?_) rfl (by kernel_rfl) (fun _ _ _ h => h) (Or.inl ⟨by rfl, fun W hW => ?_⟩) hS ?_
  rotate_left
  · (obtain ⟨hw1, hw2, hw3, hw4⟩ := SecAt.cells hW); go_simp; (try go_bits); (try rw [if_pos (by omega)]); (try with_reducible rfl)
  (try simp only [Act.put, List.setIfInBounds_toArray, List.set_cons_succ, List.set_cons_zero])
  refine wpE_take (i := 1) (oi := { dst := some 14, op := Go.Op.nilCheck (Go.Operand.tmp 13), type := 0, pos := "stages.go:27", after := #[{ on := 0, ground := Go.Ground.data }], guard := none }) (v := ?_) rfl (by kernel_rfl) (fun _ _ _ h => h) (Or.inl ⟨by rfl, fun W hW => ?_⟩) hS ?_
  rotate_left
  · (obtain ⟨hw1, hw2, hw3, hw4⟩ := SecAt.cells hW); go_simp; (try go_bits); (try rw [if_pos (by omega)]); (try with_reducible rfl)
  (try simp only [Act.put, List.setIfInBounds_toArray, List.set_cons_succ, List.set_cons_zero])
  refine wpE_take (i := 2) (oi := { dst := some 15, op := Go.Op.fieldAddr 202 (Go.Operand.tmp 14) 0, type := 0, pos := "stages.go:27", after := #[{ on := 1, ground := Go.Ground.data }], guard := none }) (v := ?_) rfl (by kernel_rfl) (fun _ _ _ h => h) (Or.inl ⟨by rfl, fun W hW => ?_⟩) hS ?_
  rotate_left
  · (obtain ⟨hw1, hw2, hw3, hw4⟩ := SecAt.cells hW); go_simp; (try go_bits); (try rw [if_pos (by omega)]); (try with_reducible rfl)
  (try simp only [Act.put, List.setIfInBounds_toArray, List.set_cons_succ, List.set_cons_zero])
  refine wpE_take (i := 3) (oi := { dst := some 16, op := Go.Op.load 199 (Go.Operand.tmp 15), type := 199, pos := "stages.go:27", after := #[{ on := 2, ground := Go.Ground.data }], guard := none }) (v := .func (.func 148) #[] #[.pointer (some ⟨rb, 0, none⟩)]) rfl (by kernel_rfl) (fun _ _ _ h => h) (Or.inl ⟨by rfl, fun W hW => ?_⟩) hS ?_
  · (obtain ⟨hw1, hw2, hw3, hw4⟩ := SecAt.cells hW); go_simp; (try go_bits); (try rw [if_pos (by omega)]); (try with_reducible rfl)
  (try simp only [Act.put, List.setIfInBounds_toArray, List.set_cons_succ, List.set_cons_zero])
  refine wpE_take (i := 4) (oi := { dst := some 17, op := Go.Op.move (Go.Operand.tmp 1), type := 30, pos := "stages.go:27", after := #[], guard := none }) (v := ?_) rfl (by kernel_rfl) (fun _ _ _ h => h) (Or.inl ⟨by rfl, fun W hW => ?_⟩) hS ?_
  rotate_left
  · (obtain ⟨hw1, hw2, hw3, hw4⟩ := SecAt.cells hW); go_simp; (try go_bits); (try rw [if_pos (by omega)]); (try with_reducible rfl)
  (try simp only [Act.put, List.setIfInBounds_toArray, List.set_cons_succ, List.set_cons_zero])
  refine wpE_take (i := 5) (oi := { dst := some 18, op := Go.Op.move (Go.Operand.tmp 2), type := 30, pos := "stages.go:27", after := #[], guard := none }) (v := ?_) rfl (by kernel_rfl) (fun _ _ _ h => h) (Or.inl ⟨by rfl, fun W hW => ?_⟩) hS ?_
  rotate_left
  · (obtain ⟨hw1, hw2, hw3, hw4⟩ := SecAt.cells hW); go_simp; (try go_bits); (try rw [if_pos (by omega)]); (try with_reducible rfl)
  (try simp only [Act.put, List.setIfInBounds_toArray, List.set_cons_succ, List.set_cons_zero])
  refine wpE_take (i := 6) (oi := { dst := some 19, op := Go.Op.move (Go.Operand.tmp 0), type := 246, pos := "stages.go:27", after := #[], guard := none }) (v := ?_) rfl (by kernel_rfl) (fun _ _ _ h => h) (Or.inl ⟨by rfl, fun W hW => ?_⟩) hS ?_
  rotate_left
  · (obtain ⟨hw1, hw2, hw3, hw4⟩ := SecAt.cells hW); go_simp; (try go_bits); (try rw [if_pos (by omega)]); (try with_reducible rfl)
  (try simp only [Act.put, List.setIfInBounds_toArray, List.set_cons_succ, List.set_cons_zero])
  refine wpE_take (i := 7) (oi := { dst := some 20, op := Go.Op.nilCheck (Go.Operand.tmp 19), type := 0, pos := "stages.go:27", after := #[{ on := 6, ground := Go.Ground.data }], guard := none }) (v := ?_) rfl (by kernel_rfl) (fun _ _ _ h => h) (Or.inl ⟨by rfl, fun W hW => ?_⟩) hS ?_
  rotate_left
  · (obtain ⟨hw1, hw2, hw3, hw4⟩ := SecAt.cells hW); go_simp; (try go_bits); (try rw [if_pos (by omega)]); (try with_reducible rfl)
  (try simp only [Act.put, List.setIfInBounds_toArray, List.set_cons_succ, List.set_cons_zero])
  refine wpE_take (i := 8) (oi := { dst := some 21, op := Go.Op.fieldAddr 202 (Go.Operand.tmp 20) 2, type := 0, pos := "stages.go:27", after := #[{ on := 7, ground := Go.Ground.data }], guard := none }) (v := ?_) rfl (by kernel_rfl) (fun _ _ _ h => h) (Or.inl ⟨by rfl, fun W hW => ?_⟩) hS ?_
  rotate_left
  · (obtain ⟨hw1, hw2, hw3, hw4⟩ := SecAt.cells hW); go_simp; (try go_bits); (try rw [if_pos (by omega)]); (try with_reducible rfl)
  (try simp only [Act.put, List.setIfInBounds_toArray, List.set_cons_succ, List.set_cons_zero])
  refine wpE_take (i := 9) (oi := { dst := some 22, op := Go.Op.load 3 (Go.Operand.tmp 21), type := 3, pos := "stages.go:27", after := #[{ on := 8, ground := Go.Ground.data }], guard := none }) (v := .int .i64 0) rfl (by kernel_rfl) (fun _ _ _ h => h) (Or.inl ⟨by rfl, fun W hW => ?_⟩) hS ?_
  · (obtain ⟨hw1, hw2, hw3, hw4⟩ := SecAt.cells hW); go_simp; (try go_bits); (try rw [if_pos (by omega)]); (try with_reducible rfl)
  (try simp only [Act.put, List.setIfInBounds_toArray, List.set_cons_succ, List.set_cons_zero])
  refine wpE_take (i := 10) (oi := { dst := some 23, op := Go.Op.binOp Go.BinOp.mul 3 (Go.Operand.const (Go.Value.int Go.IntKind.i64 9)) (Go.Operand.tmp 22) 3, type := 3, pos := "stages.go:27", after := #[{ on := 9, ground := Go.Ground.data }], guard := none }) (v := ?_) rfl (by kernel_rfl) (fun _ _ _ h => h) (Or.inl ⟨by rfl, fun W hW => ?_⟩) hS ?_
  rotate_left
  · (obtain ⟨hw1, hw2, hw3, hw4⟩ := SecAt.cells hW); go_simp; (try go_bits); (try rw [if_pos (by omega)]); (try with_reducible rfl)
  (try simp only [Act.put, List.setIfInBounds_toArray, List.set_cons_succ, List.set_cons_zero])
  refine wpE_take (i := 11) (oi := { dst := some 24, op := Go.Op.binOp Go.BinOp.add 3 (Go.Operand.const (Go.Value.int Go.IntKind.i64 12)) (Go.Operand.tmp 23) 3, type := 3, pos := "stages.go:27", after := #[{ on := 10, ground := Go.Ground.data }], guard := none }) (v := ?_) rfl (by kernel_rfl) (fun _ _ _ h => h) (Or.inl ⟨by rfl, fun W hW => ?_⟩) hS ?_
  rotate_left
  · (obtain ⟨hw1, hw2, hw3, hw4⟩ := SecAt.cells hW); go_simp; (try go_bits); (try rw [if_pos (by omega)]); (try with_reducible rfl)
  (try simp only [Act.put, List.setIfInBounds_toArray, List.set_cons_succ, List.set_cons_zero])
  refine wpE_take (i := 12) (oi := { dst := some 25, op := Go.Op.binOp Go.BinOp.shr 30 (Go.Operand.tmp 18) (Go.Operand.tmp 24) 3, type := 30, pos := "stages.go:27", after := #[{ on := 5, ground := Go.Ground.data }, { on := 11, ground := Go.Ground.data }], guard := none }) (v := .int .u64 ((a / 4096 : Nat) : Int)) rfl (by kernel_rfl) (fun _ _ _ h => h) (Or.inl ⟨by rfl, fun W hW => ?_⟩) hS ?_
  · (obtain ⟨hw1, hw2, hw3, hw4⟩ := SecAt.cells hW); go_simp; (try omega); (try trivial)
  (try simp only [Act.put, List.setIfInBounds_toArray, List.set_cons_succ, List.set_cons_zero])
  refine wpE_take (i := 13) (oi := { dst := some 26, op := Go.Op.binOp Go.BinOp.and 30 (Go.Operand.tmp 25) (Go.Operand.const (Go.Value.int Go.IntKind.u64 511)) 30, type := 30, pos := "stages.go:27", after := #[{ on := 12, ground := Go.Ground.data }], guard := none }) (v := .int .u64 ((page % 512 : Nat) : Int)) rfl (by kernel_rfl) (fun _ _ _ h => h) (Or.inl ⟨by rfl, fun W hW => ?_⟩) hS ?_
  · (obtain ⟨hw1, hw2, hw3, hw4⟩ := SecAt.cells hW); go_simp; (try rw [show ((a : Int) / 4096) = ((a / 4096 : Nat) : Int) from by omega]); (try rw [HI.out.2.2]); (try rw [and511 page (by omega)]); (try omega)
  (try simp only [Act.put, List.setIfInBounds_toArray, List.set_cons_succ, List.set_cons_zero])
  refine wpE_only (i := 14) (oi := { dst := some 27, op := Go.Op.call { callee := Go.Callee.value (Go.Operand.tmp 16), args := #[Go.Operand.tmp 17, Go.Operand.tmp 26], argTypes := #[30, 30] }, type := 247, pos := "stages.go:27", after := #[{ on := 3, ground := Go.Ground.data }, { on := 4, ground := Go.Ground.data }, { on := 13, ground := Go.Ground.data }], guard := none }) rfl (by kernel_rfl) (by rfl) (fun K hK => ?_)
  go_simp
  (try rw [show ((page : Int) / 262144) = ((page / 262144 : Nat) : Int) from by omega])
  (try rw [show ((page : Int) / 512 % 512) = ((page / 512 % 512 : Nat) : Int) from by omega])
  (try rw [show ((page : Int) % 512) = ((page % 512 : Nat) : Int) from by omega])
  have hE := page_entry1 (HX.out _ HB3.out.1).1 rb (HX.out _ HB3.out.1).2 f0 (page % 512) (by omega) (by omega)
  rw [HE.out.2.2] at hE
  refine hE.mono ?_; rintro r wf ⟨rfl, hUB⟩
  have hSB : Step (fun _ => False) own _ own wf := ⟨hUB, fun _ _ => rfl⟩
  have hSn := HB3.out.1.trans (hSB.mono (C' := (· = 7)) (fun _ h => h.elim))
  have hS : SecAt wf b rb lf 0 root := hBn.upd hUB (fun h => h)
  have HC3 := Lib.hid (And.intro hSn hS)
  clear hE hUB hSB hSn hBn HB3
  refine hK _ _ hS ?_; clear hK K
  (try simp only [Act.put, List.setIfInBounds_toArray, List.set_cons_succ, List.set_cons_zero])
  refine wpE_take (i := 15) (oi := { dst := some 12, op := Go.Op.move (Go.Operand.tmp 27), type := 247, pos := "stages.go:27", after := #[{ on := 14, ground := Go.Ground.data }], guard := none }) (v := ?_) rfl (by kernel_rfl) (fun _ _ _ h => h) (Or.inl ⟨by rfl, fun W hW => ?_⟩) hS ?_
  rotate_left
  · (obtain ⟨hw1, hw2, hw3, hw4⟩ := SecAt.cells hW); go_simp; (try go_bits); (try rw [if_pos (by omega)]); (try with_reducible rfl)
  (try simp only [Act.put, List.setIfInBounds_toArray, List.set_cons_succ, List.set_cons_zero])
  refine wpE_take (i := 16) (oi := { dst := some 28, op := Go.Op.extract (Go.Operand.tmp 12) 0, type := 30, pos := "stages.go:27", after := #[{ on := 15, ground := Go.Ground.data }], guard := none }) (v := ?_) rfl (by kernel_rfl) (fun _ _ _ h => h) (Or.inl ⟨by rfl, fun W hW => ?_⟩) hS ?_
  rotate_left
  · (obtain ⟨hw1, hw2, hw3, hw4⟩ := SecAt.cells hW); go_simp; (try go_bits); (try rw [if_pos (by omega)]); (try with_reducible rfl)
  (try simp only [Act.put, List.setIfInBounds_toArray, List.set_cons_succ, List.set_cons_zero])
  refine wpE_take (i := 17) (oi := { dst := some 29, op := Go.Op.extract (Go.Operand.tmp 12) 1, type := 3, pos := "stages.go:27", after := #[{ on := 15, ground := Go.Ground.data }, { on := 18, ground := Go.Ground.gcOnly Go.Departure.lateStores }], guard := none }) (v := ?_) rfl (by kernel_rfl) (fun _ _ _ h => h) (Or.inl ⟨by rfl, fun W hW => ?_⟩) hS ?_
  rotate_left
  · (obtain ⟨hw1, hw2, hw3, hw4⟩ := SecAt.cells hW); go_simp; (try go_bits); (try rw [if_pos (by omega)]); (try with_reducible rfl)
  (try simp only [Act.put, List.setIfInBounds_toArray, List.set_cons_succ, List.set_cons_zero])
  refine wpE_only (i := 18) (oi := { dst := some 7, op := Go.Op.assign (Go.Operand.tmp 28), type := 30, pos := "stages.go:27", after := #[{ on := 16, ground := Go.Ground.data }, { on := 14, ground := Go.Ground.chain }, { on := 0, ground := Go.Ground.phase }, { on := 1, ground := Go.Ground.phase }, { on := 2, ground := Go.Ground.phase }, { on := 3, ground := Go.Ground.phase }, { on := 4, ground := Go.Ground.phase }, { on := 5, ground := Go.Ground.phase }, { on := 6, ground := Go.Ground.phase }, { on := 7, ground := Go.Ground.phase }, { on := 8, ground := Go.Ground.phase }, { on := 9, ground := Go.Ground.phase }, { on := 10, ground := Go.Ground.phase }, { on := 11, ground := Go.Ground.phase }, { on := 12, ground := Go.Ground.phase }, { on := 13, ground := Go.Ground.phase }, { on := 14, ground := Go.Ground.phase }, { on := 15, ground := Go.Ground.phase }, { on := 16, ground := Go.Ground.phase }, { on := 17, ground := Go.Ground.textOnly Go.Departure.lateStores }], guard := none }) rfl (by kernel_rfl) (by rfl) (fun K hK => ?_)
  go_simp; (try go_bits); refine hK _ _ hS ?_; clear hK K
  (try simp only [Act.put, List.setIfInBounds_toArray, List.set_cons_succ, List.set_cons_zero])
  refine wpE_last (oi := { dst := some 8, op := Go.Op.assign (Go.Operand.tmp 29), type := 3, pos := "stages.go:27", after := #[{ on := 17, ground := Go.Ground.data }, { on := 18, ground := Go.Ground.chain }, { on := 0, ground := Go.Ground.phase }, { on := 1, ground := Go.Ground.phase }, { on := 2, ground := Go.Ground.phase }, { on := 3, ground := Go.Ground.phase }, { on := 4, ground := Go.Ground.phase }, { on := 5, ground := Go.Ground.phase }, { on := 6, ground := Go.Ground.phase }, { on := 7, ground := Go.Ground.phase }, { on := 8, ground := Go.Ground.phase }, { on := 9, ground := Go.Ground.phase }, { on := 10, ground := Go.Ground.phase }, { on := 11, ground := Go.Ground.phase }, { on := 12, ground := Go.Ground.phase }, { on := 13, ground := Go.Ground.phase }, { on := 14, ground := Go.Ground.phase }, { on := 15, ground := Go.Ground.phase }, { on := 16, ground := Go.Ground.phase }, { on := 17, ground := Go.Ground.phase }, { on := 18, ground := Go.Ground.phase }], guard := none }) rfl (by kernel_rfl) (by kernel_rfl) (by rfl) (fun K hK => ?_)
  go_simp; (try go_bits); refine hK _ _ ?_; clear hK K
  clear hS
  obtain ⟨lt, a1, a6, a54, a10, a88, a82, a212, a14, a128, nm⟩ := HL.out
  have hq : (bits .and .u64 p 6 == 4) = false ∧ (bits .and .u64 p 10 == 0) = false := by rcases hpm with rfl | rfl | rfl | rfl | rfl <;> exact ⟨by decide, by decide⟩
  have HWr := Lib.hid (wrong_no lt a1 a6 hq.1 a54)
  have z1 := HC3.out.2.frozen 1
  have z2 := HC3.out.2.frozen 2
  have y1 := HC3.out.2.cells.2.1
  have y2 := HC3.out.2.cells.2.2.1
  have hlt := HC3.out.2.lt
  have h10 : (bits .and .u64 (e : Int) 10 == 0) = false := by rw [a10]; exact hq.2
  have hz : bits .and .u64 ((e : Int) / 1024) 0 = 0 := and_zero _ (by omega)
  clear a1 a6 a54 a10 a88 a82 a212 a14 a128 nm hq
  go_wp2_with fail
  refine (HWr.out _).mono ?_; rintro r wz ⟨rfl, rfl⟩
  clear HWr
  go_wp2
  simp only [Exit.jump]
  go_ret
  exact ⟨rfl, HC3.out.1.trans ⟨(Upd.refl _ _).setCell (.inl hob) _, fun _ _ => rfl⟩, HC3.out.2.set_ 1 (.int .u64 (e : Int))⟩
end
end Go.Proofs.Ytpodeclkgcgpgaa
