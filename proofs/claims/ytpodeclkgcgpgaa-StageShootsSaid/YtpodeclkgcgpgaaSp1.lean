import Derived.Test.YtpodeclkgcgpgaaBoth
/- A guest's space (stage.Space): its view of the memory. -/
namespace Go.Proofs.Ytpodeclkgcgpgaa
set_option linter.unusedVariables false
set_option linter.unusedSimpArgs false
open Go.RowKit
set_option maxRecDepth 100000

/-- the view's value -/
abbrev viewV (rp : Nat) : Value := .agg #[.pointer (some ⟨rp, 0, none⟩)]
/-- an entry of a table -/
def en (m : Nat → Int) (t i : Nat) : Nat := (num m (t * 4096 + 8 * i) 8).toNat
theorem num_en {m : Nat → Int} (hm : ∀ x, 0 ≤ m x ∧ m x < 256) (t i : Nat) : num m (t * 4096 + 8 * i) 8 = (en m t i : Int) ∧ en m t i < 18446744073709551616 := by
  have h0 := num_nonneg hm 8 (t * 4096 + 8 * i)
  have h1 := num_lt hm 8 (t * 4096 + 8 * i)
  rw [show (256 : Int) ^ 8 = 18446744073709551616 from rfl] at h1
  unfold en
  omega
section
variable {own : Nat → Nat} {c rp n : Nat} {m : Nat → Int} {w : World}
theorem ram_Base {base : Nat} (h : MemAt ramK own c w rp base n m) : Calls Try.prog 138 #[.pointer (some ⟨rp, 0, none⟩)] w fun e w' => e = .returned (.int .u64 (base : Int)) ∧ w = w' := by
  obtain ⟨q, fs, h, rfl⟩ := h
  have h0 : w.cell? ⟨rp, 0, none⟩ = some (.int .u64 (base : Int)) := h.bp.cell 0
  clear h
  go_enter Try.func138, Try.ntmps138
  go_wp2
  go_ret
  exact ⟨rfl, rfl⟩
theorem step_alloc (own : Nat → Nat) (w : World) (o : Obj) : Step (fun _ => False) own w own (w.alloc o) := ⟨(Upd.refl _ _).alloc _, fun _ _ => rfl⟩
theorem view_number (h : MemAt ramK own c w rp 0 n m) (f : Nat) (hf : f < 4503599627370496) :
    Calls Try.prog 97 #[viewV rp, .int .i64 (f : Int)] w fun e w' => e = .returned (.int .u64 (f : Int)) ∧ Step (fun _ => False) own w own w' := by
  have hst := step_alloc own w (.cells #[.pointer (some ⟨rp, 0, none⟩)] 179)
  have HB := Lib.hid (ram_Base (h.step hst (fun h => h)))
  have HS := Lib.hid hst
  have hbl := (Blk.new w 179 #[.pointer (some ⟨rp, 0, none⟩)]).cell 0
  simp only [List.getElem?_toArray, List.getElem?_cons_zero] at hbl
  clear h hst
  go_enter Try.func97, Try.ntmps97
  go_wp2_with fail
  refine HB.out.mono ?_; rintro e w1 ⟨rfl, rfl⟩
  go_wp2
  go_ret
  exact ⟨by go_num, HS.out⟩
theorem view_frame (h : MemAt ramK own c w rp 0 n m) (f : Nat) (hf : f < 9223372036854775808) :
    Calls Try.prog 102 #[viewV rp, .int .u64 (f : Int)] w fun e w' => e = .returned (.int .i64 (f : Int)) ∧ Step (fun _ => False) own w own w' := by
  have hst := step_alloc own w (.cells #[.pointer (some ⟨rp, 0, none⟩)] 179)
  have HB := Lib.hid (ram_Base (h.step hst (fun h => h)))
  have HS := Lib.hid hst
  have hbl := (Blk.new w 179 #[.pointer (some ⟨rp, 0, none⟩)]).cell 0
  simp only [List.getElem?_toArray, List.getElem?_cons_zero] at hbl
  clear h hst
  go_enter Try.func102, Try.ntmps102
  go_wp2_with fail
  refine HB.out.mono ?_; rintro e w1 ⟨rfl, rfl⟩
  go_wp2
  go_ret
  exact ⟨by go_num, HS.out⟩
theorem view_entry (h : MemAt ramK own c w rp 0 n m) (t i : Nat) (ht : t < n) (hi : i < 512) :
    Calls Try.prog 114 #[viewV rp, .int .i64 (t : Int), .int .u64 (i : Int)] w fun e w' => e = .returned (.int .u64 (en m t i : Int)) ∧ Step (fun _ => False) own w own w' := by
  have hsz := h.sizes
  have hst : Step (fun _ => False) own w own (w.alloc (.cells #[.pointer (some ⟨rp, 0, none⟩)] 179)).drew := (step_alloc own w (.cells #[.pointer (some ⟨rp, 0, none⟩)] 179)).drew
  have h1 := h.step hst (fun h => h)
  have HN := Lib.hid (view_number h1 t (by omega))
  have hB : Blk (w.alloc (.cells #[.pointer (some ⟨rp, 0, none⟩)] 179)).drew w.heap.size 179 #[.pointer (some ⟨rp, 0, none⟩)] := (Blk.new w _ _).drew
  have H1 := Lib.hid (And.intro hst (And.intro h1 hB))
  have hen := (num_en h.bd t i).1
  have HE := Lib.hid hen
  clear h hst h1 hen
  go_enter Try.func114, Try.ntmps114
  go_wp2_with fail
  generalize w.heap.size = vb at *
  refine wpE_region (S := fun (W' : World) => Blk W' vb 179 #[.pointer (some ⟨rp, 0, none⟩)]) (s := 14) (by kernel_rfl) ?_
  have hS : (fun (W' : World) => Blk W' vb 179 #[.pointer (some ⟨rp, 0, none⟩)]) _ := hB
  refine wpE_take (i := 0) (oi := { dst := some 10, op := Go.Op.fieldAddr 179 (Go.Operand.tmp 3) 0, type := 0, pos := "stage.go:57", after := #[], guard := none }) (v := ?_) rfl (by kernel_rfl) (fun _ _ _ h => h) (Or.inl ⟨by rfl, fun W hW => ?_⟩) hS ?_
  rotate_left
  · (have hw1 : W.cell? ⟨vb, 0, none⟩ = some (.pointer (some ⟨rp, 0, none⟩)) := hW.cell 0); go_simp; (try go_bits); (try rw [if_pos (by omega)]); (try with_reducible rfl)
  (try simp only [Act.put, List.setIfInBounds_toArray, List.set_cons_succ, List.set_cons_zero])
  refine wpE_take (i := 1) (oi := { dst := some 11, op := Go.Op.load 24 (Go.Operand.tmp 10), type := 24, pos := "stage.go:57", after := #[{ on := 0, ground := Go.Ground.data }], guard := none }) (v := ?_) rfl (by kernel_rfl) (fun _ _ _ h => h) (Or.inl ⟨by rfl, fun W hW => ?_⟩) hS ?_
  rotate_left
  · (have hw1 : W.cell? ⟨vb, 0, none⟩ = some (.pointer (some ⟨rp, 0, none⟩)) := hW.cell 0); go_simp; (try go_bits); (try rw [if_pos (by omega)]); (try with_reducible rfl)
  (try simp only [Act.put, List.setIfInBounds_toArray, List.set_cons_succ, List.set_cons_zero])
  refine wpE_take (i := 2) (oi := { dst := some 12, op := Go.Op.load 179 (Go.Operand.tmp 3), type := 179, pos := "stage.go:57", after := #[], guard := none }) (v := viewV rp) rfl (by kernel_rfl) (fun _ _ _ h => h) (Or.inl ⟨by rfl, fun W hW => ?_⟩) hS ?_
  · (have hw1 : W.cell? ⟨vb, 0, none⟩ = some (.pointer (some ⟨rp, 0, none⟩)) := hW.cell 0); go_simp; (try go_bits); (try rw [if_pos (by omega)]); (try with_reducible rfl)
  (try simp only [Act.put, List.setIfInBounds_toArray, List.set_cons_succ, List.set_cons_zero])
  refine wpE_take (i := 3) (oi := { dst := some 13, op := Go.Op.move (Go.Operand.tmp 1), type := 3, pos := "stage.go:57", after := #[], guard := none }) (v := ?_) rfl (by kernel_rfl) (fun _ _ _ h => h) (Or.inl ⟨by rfl, fun W hW => ?_⟩) hS ?_
  rotate_left
  · (have hw1 : W.cell? ⟨vb, 0, none⟩ = some (.pointer (some ⟨rp, 0, none⟩)) := hW.cell 0); go_simp; (try go_bits); (try rw [if_pos (by omega)]); (try with_reducible rfl)
  (try simp only [Act.put, List.setIfInBounds_toArray, List.set_cons_succ, List.set_cons_zero])
  refine wpE_take (i := 6) (oi := { dst := some 16, op := Go.Op.move (Go.Operand.tmp 2), type := 30, pos := "stage.go:57", after := #[], guard := none }) (v := ?_) rfl (by kernel_rfl) (fun _ _ _ h => h) (Or.inl ⟨by rfl, fun W hW => ?_⟩) hS ?_
  rotate_left
  · (have hw1 : W.cell? ⟨vb, 0, none⟩ = some (.pointer (some ⟨rp, 0, none⟩)) := hW.cell 0); go_simp; (try go_bits); (try rw [if_pos (by omega)]); (try with_reducible rfl)
  (try simp only [Act.put, List.setIfInBounds_toArray, List.set_cons_succ, List.set_cons_zero])
  refine wpE_take (i := 7) (oi := { dst := some 17, op := Go.Op.binOp Go.BinOp.mul 30 (Go.Operand.const (Go.Value.int Go.IntKind.u64 8)) (Go.Operand.tmp 16) 30, type := 30, pos := "stage.go:57", after := #[{ on := 6, ground := Go.Ground.data }], guard := none }) (v := .int .u64 (8 * (i : Int))) rfl (by kernel_rfl) (fun _ _ _ h => h) (Or.inl ⟨by rfl, fun W hW => ?_⟩) hS ?_
  · (have hw1 : W.cell? ⟨vb, 0, none⟩ = some (.pointer (some ⟨rp, 0, none⟩)) := hW.cell 0); go_simp; (try go_bits); (try trivial)
  (try simp only [Act.put, List.setIfInBounds_toArray, List.set_cons_succ, List.set_cons_zero])
  refine wpE_only (i := 4) (oi := { dst := some 14, op := Go.Op.call { callee := Go.Callee.value (Go.Operand.func 97), args := #[Go.Operand.tmp 12, Go.Operand.tmp 13], argTypes := #[179, 3] }, type := 30, pos := "stage.go:57", after := #[{ on := 2, ground := Go.Ground.data }, { on := 3, ground := Go.Ground.data }], guard := none }) rfl (by kernel_rfl) (by rfl) (fun K hK => ?_)
  go_simp
  refine HN.out.mono ?_; rintro e w3 ⟨rfl, hS3⟩
  have hBn := hS.upd hS3.upd (fun h => h)
  have H2 := Lib.hid (And.intro (H1.out.1.trans hS3) (H1.out.2.1.step hS3 (fun h => h)))
  have hS := hBn
  clear hS3 HN H1 hBn
  refine hK _ _ hS ?_; clear hK K
  (try simp only [Act.put, List.setIfInBounds_toArray, List.set_cons_succ, List.set_cons_zero])
  refine wpE_take (i := 5) (oi := { dst := some 15, op := Go.Op.binOp Go.BinOp.mul 30 (Go.Operand.tmp 14) (Go.Operand.const (Go.Value.int Go.IntKind.u64 4096)) 30, type := 30, pos := "stage.go:57", after := #[{ on := 4, ground := Go.Ground.data }], guard := none }) (v := .int .u64 ((t : Int) * 4096)) rfl (by kernel_rfl) (fun _ _ _ h => h) (Or.inl ⟨by rfl, fun W hW => ?_⟩) hS ?_
  · (have hw1 : W.cell? ⟨vb, 0, none⟩ = some (.pointer (some ⟨rp, 0, none⟩)) := hW.cell 0); go_simp; (try go_bits); (try trivial)
  (try simp only [Act.put, List.setIfInBounds_toArray, List.set_cons_succ, List.set_cons_zero])
  refine wpE_take (i := 8) (oi := { dst := some 18, op := Go.Op.binOp Go.BinOp.add 30 (Go.Operand.tmp 15) (Go.Operand.tmp 17) 30, type := 30, pos := "stage.go:57", after := #[{ on := 5, ground := Go.Ground.data }, { on := 7, ground := Go.Ground.data }], guard := none }) (v := .int .u64 ((t : Int) * 4096 + 8 * (i : Int))) rfl (by kernel_rfl) (fun _ _ _ h => h) (Or.inl ⟨by rfl, fun W hW => ?_⟩) hS ?_
  · (have hw1 : W.cell? ⟨vb, 0, none⟩ = some (.pointer (some ⟨rp, 0, none⟩)) := hW.cell 0); go_simp; (try go_bits); (try trivial)
  (try simp only [Act.put, List.setIfInBounds_toArray, List.set_cons_succ, List.set_cons_zero])
  refine wpE_only (i := 9) (oi := { dst := some 19, op := Go.Op.call { callee := Go.Callee.value (Go.Operand.func 29), args := #[Go.Operand.tmp 11, Go.Operand.tmp 18, Go.Operand.const (Go.Value.int Go.IntKind.i64 8)], argTypes := #[24, 30, 3] }, type := 48, pos := "stage.go:57", after := #[{ on := 1, ground := Go.Ground.data }, { on := 8, ground := Go.Ground.data }, { on := 4, ground := Go.Ground.chain }], guard := none }) rfl (by kernel_rfl) (by rfl) (fun K hK => ?_)
  go_simp
  have hR := ram_Read H2.out.2 ((t * 4096 + 8 * i : Nat) : Int) 8 (by omega) (by omega) (by omega) (by omega)
  rw [rd_in (n := n) (a := t * 4096 + 8 * i) (by omega), HE.out, show ((t * 4096 + 8 * i : Nat) : Int) = (t : Int) * 4096 + 8 * (i : Int) from by omega] at hR
  refine hR.mono ?_; rintro e w4 ⟨rfl, kk, rfl⟩
  have H3 := Lib.hid (H2.out.1.trans ((Step.refl (fun _ => False) own w3).drewN kk))
  have hS : Blk (w3.drewN kk) vb 179 #[.pointer (some ⟨rp, 0, none⟩)] := hS
  clear hR H2
  refine hK _ _ hS ?_; clear hK K
  (try simp only [Act.put, List.setIfInBounds_toArray, List.set_cons_succ, List.set_cons_zero])
  refine wpE_take (i := 10) (oi := { dst := some 9, op := Go.Op.move (Go.Operand.tmp 19), type := 48, pos := "stage.go:57", after := #[{ on := 9, ground := Go.Ground.data }], guard := none }) (v := ?_) rfl (by kernel_rfl) (fun _ _ _ h => h) (Or.inl ⟨by rfl, fun W hW => ?_⟩) hS ?_
  rotate_left
  · (have hw1 : W.cell? ⟨vb, 0, none⟩ = some (.pointer (some ⟨rp, 0, none⟩)) := hW.cell 0); go_simp; (try go_bits); (try rw [if_pos (by omega)]); (try with_reducible rfl)
  (try simp only [Act.put, List.setIfInBounds_toArray, List.set_cons_succ, List.set_cons_zero])
  refine wpE_take (i := 11) (oi := { dst := some 20, op := Go.Op.extract (Go.Operand.tmp 9) 0, type := 30, pos := "stage.go:57", after := #[{ on := 10, ground := Go.Ground.data }], guard := none }) (v := ?_) rfl (by kernel_rfl) (fun _ _ _ h => h) (Or.inl ⟨by rfl, fun W hW => ?_⟩) hS ?_
  rotate_left
  · (have hw1 : W.cell? ⟨vb, 0, none⟩ = some (.pointer (some ⟨rp, 0, none⟩)) := hW.cell 0); go_simp; (try go_bits); (try rw [if_pos (by omega)]); (try with_reducible rfl)
  (try simp only [Act.put, List.setIfInBounds_toArray, List.set_cons_succ, List.set_cons_zero])
  refine wpE_take (i := 12) (oi := { dst := some 21, op := Go.Op.extract (Go.Operand.tmp 9) 1, type := 4, pos := "stage.go:57", after := #[{ on := 10, ground := Go.Ground.data }, { on := 13, ground := Go.Ground.gcOnly Go.Departure.lateStores }], guard := none }) (v := ?_) rfl (by kernel_rfl) (fun _ _ _ h => h) (Or.inl ⟨by rfl, fun W hW => ?_⟩) hS ?_
  rotate_left
  · (have hw1 : W.cell? ⟨vb, 0, none⟩ = some (.pointer (some ⟨rp, 0, none⟩)) := hW.cell 0); go_simp; (try go_bits); (try rw [if_pos (by omega)]); (try with_reducible rfl)
  (try simp only [Act.put, List.setIfInBounds_toArray, List.set_cons_succ, List.set_cons_zero])
  refine wpE_only (i := 13) (oi := { dst := some 7, op := Go.Op.assign (Go.Operand.tmp 20), type := 30, pos := "stage.go:57", after := #[{ on := 11, ground := Go.Ground.data }, { on := 9, ground := Go.Ground.chain }, { on := 0, ground := Go.Ground.phase }, { on := 1, ground := Go.Ground.phase }, { on := 2, ground := Go.Ground.phase }, { on := 3, ground := Go.Ground.phase }, { on := 4, ground := Go.Ground.phase }, { on := 5, ground := Go.Ground.phase }, { on := 6, ground := Go.Ground.phase }, { on := 7, ground := Go.Ground.phase }, { on := 8, ground := Go.Ground.phase }, { on := 9, ground := Go.Ground.phase }, { on := 10, ground := Go.Ground.phase }, { on := 11, ground := Go.Ground.phase }, { on := 12, ground := Go.Ground.textOnly Go.Departure.lateStores }], guard := none }) rfl (by kernel_rfl) (by rfl) (fun K hK => ?_)
  go_simp; (try go_bits); refine hK _ _ hS ?_; clear hK K
  (try simp only [Act.put, List.setIfInBounds_toArray, List.set_cons_succ, List.set_cons_zero])
  refine wpE_last (oi := { dst := some 8, op := Go.Op.assign (Go.Operand.tmp 21), type := 4, pos := "stage.go:57", after := #[{ on := 12, ground := Go.Ground.data }, { on := 13, ground := Go.Ground.chain }, { on := 0, ground := Go.Ground.phase }, { on := 1, ground := Go.Ground.phase }, { on := 2, ground := Go.Ground.phase }, { on := 3, ground := Go.Ground.phase }, { on := 4, ground := Go.Ground.phase }, { on := 5, ground := Go.Ground.phase }, { on := 6, ground := Go.Ground.phase }, { on := 7, ground := Go.Ground.phase }, { on := 8, ground := Go.Ground.phase }, { on := 9, ground := Go.Ground.phase }, { on := 10, ground := Go.Ground.phase }, { on := 11, ground := Go.Ground.phase }, { on := 12, ground := Go.Ground.phase }, { on := 13, ground := Go.Ground.phase }], guard := none }) rfl (by kernel_rfl) (by kernel_rfl) (by rfl) (fun K hK => ?_)
  go_simp; (try go_bits); refine hK _ _ ?_; clear hK K
  go_wp2
  go_ret
  exact ⟨rfl, H3.out⟩
/-- an entry is written -/
def enS (m : Nat → Int) (t i : Nat) (e : Int) : Nat → Int := put m (t * 4096 + 8 * i) 8 e
theorem view_set (h : MemAt ramK own c w rp 0 n m) (t i : Nat) (ht : t < n) (hi : i < 512) (e : Int) (he : wfU e) :
    Calls Try.prog 96 #[viewV rp, .int .i64 (t : Int), .int .u64 (i : Int), .int .u64 e] w fun e' w' => e' = .returned (.tuple #[]) ∧ ∃ own', Step (· = c) own w own' w' ∧ MemAt ramK own' c w' rp 0 n (enS m t i e) := by
  have hsz := h.sizes
  have hst : Step (fun _ => False) own w own (w.alloc (.cells #[.pointer (some ⟨rp, 0, none⟩)] 179)).drew := (step_alloc own w (.cells #[.pointer (some ⟨rp, 0, none⟩)] 179)).drew
  have h1 := h.step hst (fun h => h)
  have HN := Lib.hid (view_number h1 t (by omega))
  have hB : Blk (w.alloc (.cells #[.pointer (some ⟨rp, 0, none⟩)] 179)).drew w.heap.size 179 #[.pointer (some ⟨rp, 0, none⟩)] := (Blk.new w _ _).drew
  have H1 := Lib.hid (And.intro hst (And.intro h1 hB))
  clear h hst h1
  go_enter Try.func96, Try.ntmps96
  go_wp2_with fail
  generalize w.heap.size = vb at *
  refine wpE_region (S := fun (W' : World) => Blk W' vb 179 #[.pointer (some ⟨rp, 0, none⟩)]) (s := 10) (by kernel_rfl) ?_
  have hS : (fun (W' : World) => Blk W' vb 179 #[.pointer (some ⟨rp, 0, none⟩)]) _ := hB
  refine wpE_take (i := 0) (oi := { dst := some 8, op := Go.Op.fieldAddr 179 (Go.Operand.tmp 4) 0, type := 0, pos := "stage.go:63", after := #[], guard := none }) (v := ?_) rfl (by kernel_rfl) (fun _ _ _ h => h) (Or.inl ⟨by rfl, fun W hW => ?_⟩) hS ?_
  rotate_left
  · (have hw1 : W.cell? ⟨vb, 0, none⟩ = some (.pointer (some ⟨rp, 0, none⟩)) := hW.cell 0); go_simp; (try go_bits); (try rw [if_pos (by omega)]); (try with_reducible rfl)
  (try simp only [Act.put, List.setIfInBounds_toArray, List.set_cons_succ, List.set_cons_zero])
  refine wpE_take (i := 1) (oi := { dst := some 9, op := Go.Op.load 24 (Go.Operand.tmp 8), type := 24, pos := "stage.go:63", after := #[{ on := 0, ground := Go.Ground.data }], guard := none }) (v := ?_) rfl (by kernel_rfl) (fun _ _ _ h => h) (Or.inl ⟨by rfl, fun W hW => ?_⟩) hS ?_
  rotate_left
  · (have hw1 : W.cell? ⟨vb, 0, none⟩ = some (.pointer (some ⟨rp, 0, none⟩)) := hW.cell 0); go_simp; (try go_bits); (try rw [if_pos (by omega)]); (try with_reducible rfl)
  (try simp only [Act.put, List.setIfInBounds_toArray, List.set_cons_succ, List.set_cons_zero])
  refine wpE_take (i := 2) (oi := { dst := some 10, op := Go.Op.load 179 (Go.Operand.tmp 4), type := 179, pos := "stage.go:63", after := #[], guard := none }) (v := viewV rp) rfl (by kernel_rfl) (fun _ _ _ h => h) (Or.inl ⟨by rfl, fun W hW => ?_⟩) hS ?_
  · (have hw1 : W.cell? ⟨vb, 0, none⟩ = some (.pointer (some ⟨rp, 0, none⟩)) := hW.cell 0); go_simp; (try go_bits); (try rw [if_pos (by omega)]); (try with_reducible rfl)
  (try simp only [Act.put, List.setIfInBounds_toArray, List.set_cons_succ, List.set_cons_zero])
  refine wpE_take (i := 3) (oi := { dst := some 11, op := Go.Op.move (Go.Operand.tmp 1), type := 3, pos := "stage.go:63", after := #[], guard := none }) (v := ?_) rfl (by kernel_rfl) (fun _ _ _ h => h) (Or.inl ⟨by rfl, fun W hW => ?_⟩) hS ?_
  rotate_left
  · (have hw1 : W.cell? ⟨vb, 0, none⟩ = some (.pointer (some ⟨rp, 0, none⟩)) := hW.cell 0); go_simp; (try go_bits); (try rw [if_pos (by omega)]); (try with_reducible rfl)
  (try simp only [Act.put, List.setIfInBounds_toArray, List.set_cons_succ, List.set_cons_zero])
  refine wpE_take (i := 6) (oi := { dst := some 14, op := Go.Op.move (Go.Operand.tmp 2), type := 30, pos := "stage.go:63", after := #[], guard := none }) (v := ?_) rfl (by kernel_rfl) (fun _ _ _ h => h) (Or.inl ⟨by rfl, fun W hW => ?_⟩) hS ?_
  rotate_left
  · (have hw1 : W.cell? ⟨vb, 0, none⟩ = some (.pointer (some ⟨rp, 0, none⟩)) := hW.cell 0); go_simp; (try go_bits); (try rw [if_pos (by omega)]); (try with_reducible rfl)
  (try simp only [Act.put, List.setIfInBounds_toArray, List.set_cons_succ, List.set_cons_zero])
  refine wpE_take (i := 7) (oi := { dst := some 15, op := Go.Op.binOp Go.BinOp.mul 30 (Go.Operand.const (Go.Value.int Go.IntKind.u64 8)) (Go.Operand.tmp 14) 30, type := 30, pos := "stage.go:63", after := #[{ on := 6, ground := Go.Ground.data }], guard := none }) (v := .int .u64 (8 * (i : Int))) rfl (by kernel_rfl) (fun _ _ _ h => h) (Or.inl ⟨by rfl, fun W hW => ?_⟩) hS ?_
  · (have hw1 : W.cell? ⟨vb, 0, none⟩ = some (.pointer (some ⟨rp, 0, none⟩)) := hW.cell 0); go_simp; (try go_bits); (try trivial)
  (try simp only [Act.put, List.setIfInBounds_toArray, List.set_cons_succ, List.set_cons_zero])
  refine wpE_take (i := 9) (oi := { dst := some 17, op := Go.Op.move (Go.Operand.tmp 3), type := 30, pos := "stage.go:63", after := #[], guard := none }) (v := ?_) rfl (by kernel_rfl) (fun _ _ _ h => h) (Or.inl ⟨by rfl, fun W hW => ?_⟩) hS ?_
  rotate_left
  · (have hw1 : W.cell? ⟨vb, 0, none⟩ = some (.pointer (some ⟨rp, 0, none⟩)) := hW.cell 0); go_simp; (try go_bits); (try rw [if_pos (by omega)]); (try with_reducible rfl)
  (try simp only [Act.put, List.setIfInBounds_toArray, List.set_cons_succ, List.set_cons_zero])
  refine wpE_only (i := 4) (oi := { dst := some 12, op := Go.Op.call { callee := Go.Callee.value (Go.Operand.func 97), args := #[Go.Operand.tmp 10, Go.Operand.tmp 11], argTypes := #[179, 3] }, type := 30, pos := "stage.go:63", after := #[{ on := 2, ground := Go.Ground.data }, { on := 3, ground := Go.Ground.data }], guard := none }) rfl (by kernel_rfl) (by rfl) (fun K hK => ?_)
  go_simp
  refine HN.out.mono ?_; rintro e w3 ⟨rfl, hS3⟩
  have hBn := hS.upd hS3.upd (fun h => h)
  have H2 := Lib.hid (And.intro (H1.out.1.trans hS3) (H1.out.2.1.step hS3 (fun h => h)))
  have hS := hBn
  clear hS3 HN H1 hBn
  refine hK _ _ hS ?_; clear hK K
  (try simp only [Act.put, List.setIfInBounds_toArray, List.set_cons_succ, List.set_cons_zero])
  refine wpE_take (i := 5) (oi := { dst := some 13, op := Go.Op.binOp Go.BinOp.mul 30 (Go.Operand.tmp 12) (Go.Operand.const (Go.Value.int Go.IntKind.u64 4096)) 30, type := 30, pos := "stage.go:63", after := #[{ on := 4, ground := Go.Ground.data }], guard := none }) (v := .int .u64 ((t : Int) * 4096)) rfl (by kernel_rfl) (fun _ _ _ h => h) (Or.inl ⟨by rfl, fun W hW => ?_⟩) hS ?_
  · (have hw1 : W.cell? ⟨vb, 0, none⟩ = some (.pointer (some ⟨rp, 0, none⟩)) := hW.cell 0); go_simp; (try go_bits); (try trivial)
  (try simp only [Act.put, List.setIfInBounds_toArray, List.set_cons_succ, List.set_cons_zero])
  refine wpE_take (i := 8) (oi := { dst := some 16, op := Go.Op.binOp Go.BinOp.add 30 (Go.Operand.tmp 13) (Go.Operand.tmp 15) 30, type := 30, pos := "stage.go:63", after := #[{ on := 5, ground := Go.Ground.data }, { on := 7, ground := Go.Ground.data }], guard := none }) (v := .int .u64 ((t : Int) * 4096 + 8 * (i : Int))) rfl (by kernel_rfl) (fun _ _ _ h => h) (Or.inl ⟨by rfl, fun W hW => ?_⟩) hS ?_
  · (have hw1 : W.cell? ⟨vb, 0, none⟩ = some (.pointer (some ⟨rp, 0, none⟩)) := hW.cell 0); go_simp; (try go_bits); (try trivial)
  (try simp only [Act.put, List.setIfInBounds_toArray, List.set_cons_succ, List.set_cons_zero])
  refine wpE_last (oi := { dst := some 18, op := Go.Op.call { callee := Go.Callee.value (Go.Operand.func 28), args := #[Go.Operand.tmp 9, Go.Operand.tmp 16, Go.Operand.const (Go.Value.int Go.IntKind.i64 8), Go.Operand.tmp 17], argTypes := #[24, 30, 3, 30] }, type := 4, pos := "stage.go:63", after := #[{ on := 1, ground := Go.Ground.data }, { on := 8, ground := Go.Ground.data }, { on := 9, ground := Go.Ground.data }, { on := 4, ground := Go.Ground.chain }], guard := none }) rfl (by kernel_rfl) (by kernel_rfl) (by rfl) (fun K hK => ?_)
  go_simp
  have hR := ram_Write H2.out.2 ((t * 4096 + 8 * i : Nat) : Int) 8 e (by omega) (by omega) (by omega) (by omega) he.1 he.2
  rw [wr_in (n := n) (a := t * 4096 + 8 * i) (by omega), show ((t * 4096 + 8 * i : Nat) : Int) = (t : Int) * 4096 + 8 * (i : Int) from by omega] at hR
  refine hR.mono ?_; rintro e w4 ⟨rfl, own4, hS4, hM4⟩
  have H3 := Lib.hid (And.intro ((H2.out.1.mono (C' := (· = c)) (fun _ h => h.elim)).trans hS4) hM4)
  clear hR H2 hS4 hM4 hS
  refine hK _ _ ?_; clear hK K
  go_wp2
  go_end0
  exact ⟨rfl, own4, H3.out⟩
set_option maxHeartbeats 1000000 in
theorem view_below (h : MemAt ramK own c w rp 0 n m) (t i : Nat) (ht : t < n) (hi : i < 512) :
    Calls Try.prog 137 #[viewV rp, .int .i64 (t : Int), .int .u64 (i : Int)] w fun e w' => e = .returned (.tuple #[.int .i64 ((en m t i / 1024 : Nat) : Int), .bool ((en m t i : Int) != 0)]) ∧ Step (fun _ => False) own w own w' := by
  have hst := step_alloc own w (.cells #[.pointer (some ⟨rp, 0, none⟩)] 179)
  have h1 := h.step hst (fun h => h)
  have HN := Lib.hid (view_entry h1 t i ht hi)
  have hB : Blk (w.alloc (.cells #[.pointer (some ⟨rp, 0, none⟩)] 179)) w.heap.size 179 #[.pointer (some ⟨rp, 0, none⟩)] := Blk.new w _ _
  have hbl := hB.cell 0
  simp only [List.getElem?_toArray, List.getElem?_cons_zero] at hbl
  have hen := (num_en h.bd t i).2
  have H1 := Lib.hid (And.intro hst (And.intro h1 hB))
  clear h hst h1 hB
  generalize en m t i = x at *
  go_enter Try.func137, Try.ntmps137
  go_wp2_with fail
  refine HN.out.mono ?_; rintro e w1 ⟨rfl, hS1⟩
  have hB1 := (H1.out.2.2.upd hS1.upd (fun h => h)).cell 0
  simp only [List.getElem?_toArray, List.getElem?_cons_zero] at hB1
  have HF := Lib.hid (view_frame (H1.out.2.1.step hS1 (fun h => h)) (x / 1024) (by omega))
  have H2 := Lib.hid (H1.out.1.trans hS1)
  clear hS1 H1 HN hbl
  generalize w.heap.size = vb at *
  have hsh : ((x : Int) / 2 ^ 10) = ((x / 1024 : Nat) : Int) := by
    rw [show (2 : Int) ^ 10 = 1024 from rfl]; omega
  have hsh2 : ((x : Int) / 1024) = ((x / 1024 : Nat) : Int) := by omega
  have HSH := Lib.hid (And.intro hsh hsh2)
  clear hsh hsh2
  go_wp2_with fail
  (try rw [HSH.out.1])
  (try rw [HSH.out.2])
  refine HF.out.mono ?_; rintro e w2 ⟨rfl, hS2⟩
  have H3 := Lib.hid (H2.out.trans hS2)
  clear hS2 H2 HF
  go_wp2
  go_ret2
  exact ⟨rfl, H3.out⟩
end
end Go.Proofs.Ytpodeclkgcgpgaa
