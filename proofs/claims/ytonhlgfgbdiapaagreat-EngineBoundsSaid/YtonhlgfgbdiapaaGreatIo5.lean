import Derived.Test.YtonhlgfgbdiapaaGreatIo4
/- The IOMMU: Next. -/
namespace Go.Proofs.YtonhlgfgbdiapaaGreat
set_option linter.unusedVariables false
set_option linter.unusedSimpArgs false
open Go.RowKit
set_option maxRecDepth 100000

section
variable {own : Nat → Nat} {c cm p rp tp n : Nat} {w : World} {s : Us} {m : Nat → Int}
set_option maxHeartbeats 1500000 in
theorem io_Next_none (hU : UsAt own c w p rp tp s) (hM : MemAt ramK own cm w rp 0 n m) (hr : nextOk s = false) :
    Calls Tryz.prog 15 #[.pointer (some ⟨p, 0, none⟩)] w fun e w' => e = .returned (.tuple #[.agg #[.int .i64 0, .int .i64 0, .int .u64 0], .bool false]) ∧
      ∃ own', Step (fun _ => False) own w own' w' ∧ UsAt own' c w' p rp tp s ∧ MemAt ramK own' cm w' rp 0 n m := by
  obtain ⟨c0, c1, c2, c3, c4, c5, c6⟩ := hU.rest
  have hlt := hU.lt
  have hst := step_allocS own w (.cells #[.int .i64 0, .int .i64 0, .int .u64 0] 57)
  have HR := Lib.hid (show ∃ own', Step (fun _ => False) own w own' _ ∧ UsAt own' c _ p rp tp s ∧ MemAt ramK own' cm _ rp 0 n m from ⟨own, hst, hU.step hst (fun h => h), hM.step hst (fun h => h)⟩)
  clear hU hM hst
  unfold nextOk at hr
  rcases hq : s.rd with _ | _
  · rw [hq] at c3
    clear hr
    go_enter Tryz.func15, Tryz.ntmps15
    go_wp2
    refine bodyPost_ret (results_cell_tmp_row rfl _ _ w.heap.size 57 #[.int .i64 0, .int .i64 0, .int .u64 0] _ rfl (Blk.new w _ _) Tryz.underlying57 rfl (by kernel_rfl)) rfl ?_
    exact ⟨rfl, HR.out⟩
  · rw [hq] at c3 hr
    have hu : s.un = 0 := by simpa using hr
    rw [hu, show ((0 : Nat) : Int) = 0 from rfl] at c5
    clear hr
    go_enter Tryz.func15, Tryz.ntmps15
    go_wp2
    refine bodyPost_ret (results_cell_tmp_row rfl _ _ w.heap.size 57 #[.int .i64 0, .int .i64 0, .int .u64 0] _ rfl (Blk.new w _ _) Tryz.underlying57 rfl (by kernel_rfl)) rfl ?_
    exact ⟨rfl, HR.out⟩
/-- what Next carries along -/
structure NxAt (own : Nat → Nat) (c cm : Nat) (w0 w : World) (p rp tp n xr : Nat) (s : Us) (m : Nat → Int) (own0 : Nat → Nat) : Prop where
  st : Step (fun _ => False) own0 w0 own w
  u : UsAt own c w p rp tp s
  mm : MemAt ramK own cm w rp 0 n m
  b : Blk w xr 57 #[.int .i64 0, .int .i64 0, .int .u64 0]
  o : own xr = c + cm + 1
theorem NxAt.drewN {own own0 : Nat → Nat} {w0 : World} {xr : Nat} (h : NxAt own c cm w0 w p rp tp n xr s m own0) (q : Nat) : NxAt own c cm w0 (w.drewN q) p rp tp n xr s m own0 := by
  have hst : Step (fun _ => False) own w own (w.drewN q) := (Step.refl _ _ _).drewN q
  exact ⟨h.st.trans hst, h.u.step hst (fun h => h), h.mm.step hst (fun h => h), h.b.drewN q, h.o⟩
set_option maxHeartbeats 1500000 in
theorem io_Next (hU : UsAt own c w p rp tp s) (hM : MemAt ramK own cm w rp 0 n m) (hcm : c ≠ cm) (hok : UsOk n s) (hr : nextOk s = true) :
    Calls Tryz.prog 15 #[.pointer (some ⟨p, 0, none⟩)] w fun e w' => e = .returned (.tuple #[.agg #[.int .i64 (num m (nextA s) 4), .int .i64 (num m (nextA s + 4) 4), .int .u64 (num m (nextA s + 8) 8)], .bool true]) ∧
      ∃ own', Step (· = c) own w own' w' ∧ UsAt own' c w' p rp tp (nextS s) ∧ MemAt ramK own' cm w' rp 0 n m := by
  obtain ⟨c0, c1, c2, c3, c4, c5, c6⟩ := hU.rest
  have hlt := hU.lt
  have hsz := hM.sizes
  have hbd := hM.bd
  obtain ⟨hA, hun, hrd⟩ := nextA_in hok hr
  rw [hrd] at c3
  have hun0 : ((s.un : Int) == 0) = false := by simp; omega
  have hun1 := hok.un
  have hfi := hok.fi
  have hrg := hok.ring
  have hAe : nextA s = s.ring + s.fi * 16 := rfl
  generalize nextA s = A at *
  have g1 := rd_num n m A 4 rfl (by omega)
  have g2 := rd_num n m (A + 4) 4 rfl (by omega)
  have g3 := rd_num n m (A + 8) 8 rfl (by omega)
  rw [show ((A + 4 : Nat) : Int) = (A : Int) + 4 from rfl] at g2
  rw [show ((A + 8 : Nat) : Int) = (A : Int) + 8 from rfl] at g3
  rw [show ((4 : Nat) : Int) = 4 from rfl] at g1 g2
  rw [show ((8 : Nat) : Int) = 8 from rfl] at g3
  have b1 := num_nonneg hbd 4 A
  have b1' := num_lt hbd 4 A
  have b2 := num_nonneg hbd 4 (A + 4)
  have b2' := num_lt hbd 4 (A + 4)
  rw [show (256 : Int) ^ 4 = 4294967296 from rfl] at b1' b2'
  obtain ⟨x1, hx1⟩ : ∃ x, num m A 4 = x := ⟨_, rfl⟩
  obtain ⟨x2, hx2⟩ : ∃ x, num m (A + 4) 4 = x := ⟨_, rfl⟩
  obtain ⟨x3, hx3⟩ : ∃ x, num m (A + 8) 8 = x := ⟨_, rfl⟩
  rw [hx1] at b1 b1' g1 ⊢
  rw [hx2] at b2 b2' g2 ⊢
  rw [hx3] at g3 ⊢
  have hst : Step (fun _ => False) own w (ext own w (c + cm + 1)) (w.alloc (.cells #[.int .i64 0, .int .i64 0, .int .u64 0] 57)).drew := Step.drew ⟨(Upd.refl _ _).alloc _, fun b hb => ext_old _ _ _ hb⟩
  have HN := Lib.hid (show NxAt (ext own w (c + cm + 1)) c cm w (w.alloc (.cells #[.int .i64 0, .int .i64 0, .int .u64 0] 57)).drew p rp tp n w.heap.size s m own from ⟨hst, hU.step hst (fun h => h), hM.step hst (fun h => h), Blk.drew (Blk.new w _ _), ext_new _ _ _ (Nat.le_refl _)⟩)
  have HG := Lib.hid (And.intro g1 (And.intro g2 (And.intro g3 hr)))
  have HAE := Lib.hid hAe
  have hAN : (A : Int) + 16 ≤ n * 4096 := by omega
  clear hU hM hst hok hr hAe g1 g2 g3 hx1 hx2 hx3 hbd hrd
  go_enter Tryz.func15, Tryz.ntmps15
  go_wp2_with fail
  refine wpE_region (S := fun (W' : World) => W'.cell? ⟨p, 522, none⟩ = some (.int .u64 (s.ring : Int)) ∧ W'.cell? ⟨p, 524, none⟩ = some (.int .i64 (s.fi : Int))) (s := 11) (by kernel_rfl) ?_
  have hS : (fun (W' : World) => W'.cell? ⟨p, 522, none⟩ = some (.int .u64 (s.ring : Int)) ∧ W'.cell? ⟨p, 524, none⟩ = some (.int .i64 (s.fi : Int))) _ := ⟨HN.out.u.rest.2.2.1, HN.out.u.rest.2.2.2.2.1⟩
  refine wpE_take (i := 0) (oi := { dst := some 24, op := Go.Op.move (Go.Operand.tmp 0), type := 29, pos := "iommu.go:177", after := #[], guard := none }) (v := ?_) rfl (by kernel_rfl) (fun _ _ _ h => h) (Or.inl ⟨by rfl, fun W hW => ?_⟩) hS ?_
  rotate_left
  · obtain ⟨hw1, hw2⟩ := hW; go_simp; (try go_bits); (try rw [if_pos (by omega)]); (try with_reducible rfl)
  (try simp only [Act.put, List.setIfInBounds_toArray, List.set_cons_succ, List.set_cons_zero])
  refine wpE_take (i := 1) (oi := { dst := some 25, op := Go.Op.nilCheck (Go.Operand.tmp 24), type := 0, pos := "iommu.go:177", after := #[{ on := 0, ground := Go.Ground.data }], guard := none }) (v := ?_) rfl (by kernel_rfl) (fun _ _ _ h => h) (Or.inl ⟨by rfl, fun W hW => ?_⟩) hS ?_
  rotate_left
  · obtain ⟨hw1, hw2⟩ := hW; go_simp; (try go_bits); (try rw [if_pos (by omega)]); (try with_reducible rfl)
  (try simp only [Act.put, List.setIfInBounds_toArray, List.set_cons_succ, List.set_cons_zero])
  refine wpE_take (i := 2) (oi := { dst := some 26, op := Go.Op.fieldAddr 101 (Go.Operand.tmp 25) 3, type := 0, pos := "iommu.go:177", after := #[{ on := 1, ground := Go.Ground.data }], guard := none }) (v := ?_) rfl (by kernel_rfl) (fun _ _ _ h => h) (Or.inl ⟨by rfl, fun W hW => ?_⟩) hS ?_
  rotate_left
  · obtain ⟨hw1, hw2⟩ := hW; go_simp; (try go_bits); (try rw [if_pos (by omega)]); (try with_reducible rfl)
  (try simp only [Act.put, List.setIfInBounds_toArray, List.set_cons_succ, List.set_cons_zero])
  refine wpE_take (i := 3) (oi := { dst := some 27, op := Go.Op.load 23 (Go.Operand.tmp 26), type := 23, pos := "iommu.go:177", after := #[{ on := 2, ground := Go.Ground.data }], guard := none }) (v := ?_) rfl (by kernel_rfl) (fun _ _ _ h => h) (Or.inl ⟨by rfl, fun W hW => ?_⟩) hS ?_
  rotate_left
  · obtain ⟨hw1, hw2⟩ := hW; go_simp; (try go_bits); (try rw [if_pos (by omega)]); (try with_reducible rfl)
  (try simp only [Act.put, List.setIfInBounds_toArray, List.set_cons_succ, List.set_cons_zero])
  refine wpE_take (i := 4) (oi := { dst := some 28, op := Go.Op.move (Go.Operand.tmp 0), type := 29, pos := "iommu.go:177", after := #[], guard := none }) (v := ?_) rfl (by kernel_rfl) (fun _ _ _ h => h) (Or.inl ⟨by rfl, fun W hW => ?_⟩) hS ?_
  rotate_left
  · obtain ⟨hw1, hw2⟩ := hW; go_simp; (try go_bits); (try rw [if_pos (by omega)]); (try with_reducible rfl)
  (try simp only [Act.put, List.setIfInBounds_toArray, List.set_cons_succ, List.set_cons_zero])
  refine wpE_take (i := 5) (oi := { dst := some 29, op := Go.Op.nilCheck (Go.Operand.tmp 28), type := 0, pos := "iommu.go:177", after := #[{ on := 4, ground := Go.Ground.data }], guard := none }) (v := ?_) rfl (by kernel_rfl) (fun _ _ _ h => h) (Or.inl ⟨by rfl, fun W hW => ?_⟩) hS ?_
  rotate_left
  · obtain ⟨hw1, hw2⟩ := hW; go_simp; (try go_bits); (try rw [if_pos (by omega)]); (try with_reducible rfl)
  (try simp only [Act.put, List.setIfInBounds_toArray, List.set_cons_succ, List.set_cons_zero])
  refine wpE_take (i := 6) (oi := { dst := some 30, op := Go.Op.fieldAddr 101 (Go.Operand.tmp 29) 5, type := 0, pos := "iommu.go:177", after := #[{ on := 5, ground := Go.Ground.data }], guard := none }) (v := ?_) rfl (by kernel_rfl) (fun _ _ _ h => h) (Or.inl ⟨by rfl, fun W hW => ?_⟩) hS ?_
  rotate_left
  · obtain ⟨hw1, hw2⟩ := hW; go_simp; (try go_bits); (try rw [if_pos (by omega)]); (try with_reducible rfl)
  (try simp only [Act.put, List.setIfInBounds_toArray, List.set_cons_succ, List.set_cons_zero])
  refine wpE_take (i := 7) (oi := { dst := some 31, op := Go.Op.load 3 (Go.Operand.tmp 30), type := 3, pos := "iommu.go:177", after := #[{ on := 6, ground := Go.Ground.data }], guard := none }) (v := ?_) rfl (by kernel_rfl) (fun _ _ _ h => h) (Or.inl ⟨by rfl, fun W hW => ?_⟩) hS ?_
  rotate_left
  · obtain ⟨hw1, hw2⟩ := hW; go_simp; (try go_bits); (try rw [if_pos (by omega)]); (try with_reducible rfl)
  (try simp only [Act.put, List.setIfInBounds_toArray, List.set_cons_succ, List.set_cons_zero])
  refine wpE_take (i := 8) (oi := { dst := some 32, op := Go.Op.binOp Go.BinOp.mul 3 (Go.Operand.tmp 31) (Go.Operand.const (Go.Value.int Go.IntKind.i64 16)) 3, type := 3, pos := "iommu.go:177", after := #[{ on := 7, ground := Go.Ground.data }], guard := none }) (v := .int .i64 ((s.fi * 16 : Nat) : Int)) rfl (by kernel_rfl) (fun _ _ _ h => h) (Or.inl ⟨by rfl, fun W hW => ?_⟩) hS ?_
  · obtain ⟨hw1, hw2⟩ := hW; go_simp; (try go_bits); (try trivial)
  (try simp only [Act.put, List.setIfInBounds_toArray, List.set_cons_succ, List.set_cons_zero])
  refine wpE_take (i := 9) (oi := { dst := some 33, op := Go.Op.convert 3 23 (Go.Operand.tmp 32), type := 23, pos := "iommu.go:177", after := #[{ on := 8, ground := Go.Ground.data }], guard := none }) (v := .int .u64 ((s.fi * 16 : Nat) : Int)) rfl (by kernel_rfl) (fun _ _ _ h => h) (Or.inl ⟨by rfl, fun W hW => ?_⟩) hS ?_
  · obtain ⟨hw1, hw2⟩ := hW; go_simp; (try go_bits); (try trivial)
  (try simp only [Act.put, List.setIfInBounds_toArray, List.set_cons_succ, List.set_cons_zero])
  refine wpE_take (i := 10) (oi := { dst := some 34, op := Go.Op.binOp Go.BinOp.add 23 (Go.Operand.tmp 27) (Go.Operand.tmp 33) 23, type := 23, pos := "iommu.go:177", after := #[{ on := 3, ground := Go.Ground.data }, { on := 9, ground := Go.Ground.data }], guard := none }) (v := .int .u64 (A : Int)) rfl (by kernel_rfl) (fun _ _ _ h => h) (Or.inl ⟨by rfl, fun W hW => ?_⟩) hS ?_
  · obtain ⟨hw1, hw2⟩ := hW; have hq := HAE.out; rw [hq]; go_simp; (try go_bits); (try rw [IntWalk.u64_in _ (by omega)]); (try trivial)
  (try simp only [Act.put, List.setIfInBounds_toArray, List.set_cons_succ, List.set_cons_zero])
  refine wpE_last (oi := { dst := some 4, op := Go.Op.assign (Go.Operand.tmp 34), type := 23, pos := "iommu.go:177", after := #[{ on := 10, ground := Go.Ground.data }, { on := 0, ground := Go.Ground.phase }, { on := 1, ground := Go.Ground.phase }, { on := 2, ground := Go.Ground.phase }, { on := 3, ground := Go.Ground.phase }, { on := 4, ground := Go.Ground.phase }, { on := 5, ground := Go.Ground.phase }, { on := 6, ground := Go.Ground.phase }, { on := 7, ground := Go.Ground.phase }, { on := 8, ground := Go.Ground.phase }, { on := 9, ground := Go.Ground.phase }, { on := 10, ground := Go.Ground.phase }], guard := none }) rfl (by kernel_rfl) (by kernel_rfl) (by rfl) (fun K hK => ?_)
  go_simp; (try go_bits); refine hK _ _ ?_; clear hK K
  clear hS c0 c1 c2 c3 c4 c5 c6 HAE
  generalize hxr : w.heap.size = xr at *
  generalize (w.alloc (.cells #[.int .i64 0, .int .i64 0, .int .u64 0] 57)).drew = w1 at *
  have hR1 := ram_Read HN.out.mm (A : Int) 4 (by omega) (by omega) (by decide) (by decide)
  rw [HG.out.1] at hR1
  have HR1 := Lib.hid hR1
  have d0 := HN.out.u.rest.1
  clear hR1
  go_wp2_with fail
  ((with_reducible refine HR1.out.mono ?_); rintro e wz ⟨rfl, q1, rfl⟩)
  have HN2 := Lib.hid (HN.out.drewN q1)
  clear HN HR1 d0
  generalize w1.drewN q1 = w2 at *
  have hR1 := ram_Read HN2.out.mm ((A : Int) + 4) 4 (by omega) (by omega) (by decide) (by decide)
  rw [HG.out.2.1] at hR1
  have HR1 := Lib.hid hR1
  have d0 := HN2.out.u.rest.1
  clear hR1
  go_wp2_with fail
  ((with_reducible refine HR1.out.mono ?_); rintro e wz ⟨rfl, q2, rfl⟩)
  have HN3 := Lib.hid (HN2.out.drewN q2)
  clear HN2 HR1 d0
  generalize w2.drewN q2 = w3 at *
  have hR1 := ram_Read HN3.out.mm ((A : Int) + 8) 8 (by omega) (by omega) (by decide) (by decide)
  rw [HG.out.2.2.1] at hR1
  have HR1 := Lib.hid hR1
  have d0 := HN3.out.u.rest.1
  clear hR1
  go_wp2_with fail
  ((with_reducible refine HR1.out.mono ?_); rintro e wz ⟨rfl, q3, rfl⟩)
  have HN4 := Lib.hid (HN3.out.drewN q3)
  clear HN3 HR1 d0
  generalize w3.drewN q3 = w4 at *
  obtain ⟨_, _, _, _, f4, f5, _⟩ := HN4.out.u.rest
  have z4 := HN4.out.u.froz 524 (by omega)
  have z5 := HN4.out.u.froz 525 (by omega)
  have hl4 := HN4.out.u.lt
  have y0 := HN4.out.b.cell 0
  have y1 := HN4.out.b.cell 1
  have y2 := HN4.out.b.cell 2
  simp only [List.getElem?_toArray, List.getElem?_cons_zero, List.getElem?_cons_succ] at y0 y1 y2
  have t0 := HN4.out.b.frozen 0
  have t1 := HN4.out.b.frozen 1
  have t2 := HN4.out.b.frozen 2
  have hlr := HN4.out.b.lt
  have hne : p ≠ xr := by omega
  have hne' : xr ≠ p := by omega
  obtain ⟨r1, r2⟩ := HN4.out.u.wNx HG.out.2.2.2 _ _ rfl rfl
  obtain ⟨k1, k2⟩ := r2.blk HN4.out.b HN4.out.o (by omega)
  have HE := Lib.hid (And.intro (HN4.out.st.mono (C' := (· = c)) (fun _ h => h.elim) |>.trans r2) (And.intro r1 (And.intro (HN4.out.mm.step r2 (fun e => hcm e.symm)) (And.intro k1 k2))))
  have hfv : (((s.fi + 1) % 256 : Nat) : Int) = ((s.fi : Int) + 1) % 256 := by omega
  have huv : ((s.un - 1 : Nat) : Int) = (s.un : Int) - 1 := by omega
  rw [hfv, huv] at HE
  clear r1 r2 k1 k2 HN4 hfv huv HG
  go_wp2
  refine bodyPost_ret (results_cell_tmp_row rfl _ _ xr 57 #[.int .i64 x1, .int .i64 x2, .int .u64 x3] _ rfl (((HE.out.2.2.2.1.set_ 0 (.int .i64 x1)).set_ 1 (.int .i64 x2)).set_ 2 (.int .u64 x3)) Tryz.underlying57 rfl (by kernel_rfl)) rfl ?_
  have hx := HE.out.2.2.2.2
  have hst : ∀ wq : World, Step (· = c + cm + 1) (ext own w (c + cm + 1)) wq (ext own w (c + cm + 1)) (((wq.setCell ⟨xr, 0, none⟩ (.int .i64 x1)).setCell ⟨xr, 1, none⟩ (.int .i64 x2)).setCell ⟨xr, 2, none⟩ (.int .u64 x3)) := fun wq =>
    ⟨(((Upd.refl _ _).setCell (p := ⟨xr, 0, none⟩) (.inl hx) (.int .i64 x1)).setCell (p := ⟨xr, 1, none⟩) (.inl hx) (.int .i64 x2)).setCell (p := ⟨xr, 2, none⟩) (.inl hx) (.int .u64 x3), fun _ _ => rfl⟩
  have hup : ∀ wq : World, Upd (· = xr) wq (((wq.setCell ⟨xr, 0, none⟩ (.int .i64 x1)).setCell ⟨xr, 1, none⟩ (.int .i64 x2)).setCell ⟨xr, 2, none⟩ (.int .u64 x3)) := fun wq =>
    ((Upd.refl (· = xr) wq).setCell (p := ⟨xr, 0, none⟩) (.inl rfl) (.int .i64 x1)).setCell (p := ⟨xr, 1, none⟩) (.inl rfl) (.int .i64 x2) |>.setCell (p := ⟨xr, 2, none⟩) (.inl rfl) (.int .u64 x3)
  exact ⟨rfl, _, ⟨HE.out.1.upd.trans' (hup _) (fun i hi e => by omega), HE.out.1.old⟩, HE.out.2.1.step (hst _) (by omega), HE.out.2.2.1.step (hst _) (by omega)⟩
end
end Go.Proofs.YtonhlgfgbdiapaaGreat
