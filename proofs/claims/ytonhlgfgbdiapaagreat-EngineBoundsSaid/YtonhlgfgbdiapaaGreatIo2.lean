import Derived.Test.YtonhlgfgbdiapaaGreatIoP
import Derived.Test.YtonhlgfgbdiapaaGreatMake
/- The IOMMU: there, Ring, Remap, Set, Drop, Root. -/
namespace Go.Proofs.YtonhlgfgbdiapaaGreat
set_option linter.unusedVariables false
set_option linter.unusedSimpArgs false
open Go.RowKit
set_option maxRecDepth 100000

section
variable {own : Nat → Nat} {c cm p rp tp n : Nat} {w : World} {s : Us} {m : Nat → Int}
theorem io_there (dev : Int) (w : World) : Calls Tryz.prog 30 #[.int .i64 dev] w fun e w' => e = .returned (.bool (decide (0 ≤ dev ∧ dev < 8))) ∧ w = w' := by
  go_enter Tryz.func30, Tryz.ntmps30
  go_wp2
  all_goals go_ret
  all_goals (refine ⟨?_, rfl⟩; simp_all <;> omega)
def rootP (s : Us) (dev : Int) : Nat := if 0 ≤ dev ∧ dev < 8 then s.rt dev.toNat else 0
theorem io_Root (h : UsAt own c w p rp tp s) (dev : Int) : Calls Tryz.prog 64 #[.pointer (some ⟨p, 0, none⟩), .int .i64 dev] w fun e w' => e = .returned (.int .u64 (rootP s dev : Int)) ∧ w = w' := by
  have HT := Lib.hid (io_there dev w)
  by_cases hd : 0 ≤ dev ∧ dev < 8
  · have hde : decide (0 ≤ dev ∧ dev < 8) = true := by simpa using hd
    obtain ⟨d, rfl⟩ := Int.eq_ofNat_of_zero_le hd.1
    have hr := h.root d (by omega)
    rw [show rootP s (d : Int) = s.rt d from by unfold rootP; rw [if_pos hd]; rfl]
    have hd8 : d < 8 := by omega
    clear h hd
    go_enter Tryz.func64, Tryz.ntmps64
    go_wp2_with fail
    ((with_reducible refine HT.out.mono ?_); rintro e wz ⟨rfl, rfl⟩)
    rw [hde]
    clear HT
    go_wp2
    go_ret
    exact ⟨rfl, rfl⟩
  · have hde : decide (0 ≤ dev ∧ dev < 8) = false := by simpa using hd
    rw [show rootP s dev = 0 from by unfold rootP; rw [if_neg hd]]
    clear h hd
    go_enter Tryz.func64, Tryz.ntmps64
    go_wp2_with fail
    ((with_reducible refine HT.out.mono ?_); rintro e wz ⟨rfl, rfl⟩)
    rw [hde]
    clear HT
    go_wp2
    go_ret
    exact ⟨rfl, rfl⟩
theorem io_Set (h : UsAt own c w p rp tp s) (d r : Nat) (hd : d < 8) (hr : r ≠ 0) : Calls Tryz.prog 9 #[.pointer (some ⟨p, 0, none⟩), .int .i64 (d : Int), .int .u64 (r : Int)] w fun e w' => e = .returned (.int .i64 0) ∧ Step (· = c) own w own w' ∧ UsAt own c w' p rp tp (usRt s d r) := by
  have HT := Lib.hid (io_there d w)
  have hde : decide (0 ≤ (d : Int) ∧ (d : Int) < 8) = true := by simp; omega
  have hz := h.froz (2 + d * 65) (by omega)
  have hc := h.root d hd
  have hlt := h.lt
  have hr0 : ((r : Int) == 0) = false := by simp; omega
  have HH := Lib.hid (h.wRt d r hd)
  clear h
  go_enter Tryz.func9, Tryz.ntmps9
  go_wp2_with fail
  ((with_reducible refine HT.out.mono ?_); rintro e wz ⟨rfl, rfl⟩)
  rw [hde]
  clear HT
  go_wp2
  go_ret
  exact ⟨rfl, HH.out.2, HH.out.1⟩
theorem io_Set_bad (d : Int) (r : Nat) (hbad : ¬ (0 ≤ d ∧ d < 8) ∨ r = 0) (w : World) : Calls Tryz.prog 9 #[.pointer (some ⟨p, 0, none⟩), .int .i64 d, .int .u64 (r : Int)] w fun e w' => e = .returned (.int .i64 1) ∧ w = w' := by
  have HT := Lib.hid (io_there d w)
  by_cases hd : 0 ≤ d ∧ d < 8
  · have hde : decide (0 ≤ d ∧ d < 8) = true := by simpa using hd
    obtain rfl : r = 0 := by rcases hbad with h | h; exact absurd hd h; exact h
    clear hbad hd
    rw [show ((0 : Nat) : Int) = 0 from rfl]
    go_enter Tryz.func9, Tryz.ntmps9
    go_wp2_with fail
    ((with_reducible refine HT.out.mono ?_); rintro e wz ⟨rfl, rfl⟩)
    rw [hde]
    go_wp2
    go_ret
    exact ⟨rfl, rfl⟩
  · have hde : decide (0 ≤ d ∧ d < 8) = false := by simpa using hd
    clear hbad hd
    go_enter Tryz.func9, Tryz.ntmps9
    go_wp2_with fail
    ((with_reducible refine HT.out.mono ?_); rintro e wz ⟨rfl, rfl⟩)
    rw [hde]
    go_wp2
    go_ret
    exact ⟨rfl, rfl⟩
set_option maxHeartbeats 1500000 in
theorem io_Remap (h : UsAt own c w p rp tp s) (d k : Nat) (hd : d < 8) (hk : k < 32) (g i : Int) : Calls Tryz.prog 84 #[.pointer (some ⟨p, 0, none⟩), .int .i64 (d : Int), .int .u64 (k : Int), .agg #[.int .i64 g, .int .i64 i]] w fun e w' => e = .returned (.int .i64 0) ∧ ∃ own', Step (· = c) own w own' w' ∧ UsAt own' c w' p rp tp (usMs s d k g i) := by
  have hB := Blk.new w 47 #[.int .i64 g, .int .i64 i]
  have HT := Lib.hid (fun w => io_there d w)
  have hde : decide (0 ≤ (d : Int) ∧ (d : Int) < 8) = true := by simp; omega
  have hke : decide ((32 : Int) ≤ (k : Int)) = false := by simp; omega
  have hz := h.froz (2 + d * 65 + 1 + k * 2) (by omega)
  have hz1 := h.froz (2 + d * 65 + 1 + k * 2 + 1) (by omega)
  obtain ⟨hc, hc1⟩ := h.msg d k hd hk
  have hlt := h.lt
  obtain ⟨r1, r2⟩ := h.wMs d k g i hd hk
  have hst := (step_allocS own ((w.setCell ⟨p, 2 + d * 65 + 1 + k * 2, none⟩ (.int .i64 g)).setCell ⟨p, 2 + d * 65 + 1 + k * 2 + 1, none⟩ (.int .i64 i)) (.cells #[.int .i64 g, .int .i64 i] 47)).drew
  have HR := Lib.hid (show ∃ own', Step (· = c) own w own' _ ∧ UsAt own' c _ p rp tp (usMs s d k g i) from ⟨_, r2.trans (hst.mono (C' := (· = c)) (fun _ h => h.elim)), r1.step hst (fun h => h)⟩)
  have b0 := hB.cell 0
  have b1 := hB.cell 1
  simp only [List.getElem?_toArray, List.getElem?_cons_zero, List.getElem?_cons_succ] at b0 b1
  clear h hst hB r1 r2
  go_enter Tryz.func84, Tryz.ntmps84
  go_wp2_with fail
  ((with_reducible refine (HT.out _).mono ?_); rintro e wz ⟨rfl, rfl⟩)
  rw [hde]
  clear HT
  go_wp2_with fail
  refine wpE_region (S := fun (W' : World) => W'.cell? ⟨w.heap.size, 0, none⟩ = some (.int .i64 g) ∧ W'.cell? ⟨w.heap.size, 1, none⟩ = some (.int .i64 i)) (s := 9) (by kernel_rfl) ?_
  have hS : (fun (W' : World) => W'.cell? ⟨w.heap.size, 0, none⟩ = some (.int .i64 g) ∧ W'.cell? ⟨w.heap.size, 1, none⟩ = some (.int .i64 i)) _ := ⟨b0, b1⟩
  refine wpE_take (i := 0) (oi := { dst := some 16, op := Go.Op.move (Go.Operand.tmp 0), type := 29, pos := "iommu.go:88", after := #[], guard := none }) (v := ?_) rfl (by kernel_rfl) (fun _ _ _ h => h) (Or.inl ⟨by rfl, fun W hW => ?_⟩) hS ?_
  rotate_left
  · obtain ⟨hw1, hw2⟩ := hW; go_simp; (try go_bits); (try rw [if_pos (by omega)]); (try with_reducible rfl)
  (try simp only [Act.put, List.setIfInBounds_toArray, List.set_cons_succ, List.set_cons_zero])
  refine wpE_take (i := 1) (oi := { dst := some 17, op := Go.Op.move (Go.Operand.tmp 1), type := 3, pos := "iommu.go:88", after := #[], guard := none }) (v := ?_) rfl (by kernel_rfl) (fun _ _ _ h => h) (Or.inl ⟨by rfl, fun W hW => ?_⟩) hS ?_
  rotate_left
  · obtain ⟨hw1, hw2⟩ := hW; go_simp; (try go_bits); (try rw [if_pos (by omega)]); (try with_reducible rfl)
  (try simp only [Act.put, List.setIfInBounds_toArray, List.set_cons_succ, List.set_cons_zero])
  refine wpE_take (i := 2) (oi := { dst := some 18, op := Go.Op.move (Go.Operand.tmp 2), type := 23, pos := "iommu.go:88", after := #[], guard := none }) (v := ?_) rfl (by kernel_rfl) (fun _ _ _ h => h) (Or.inl ⟨by rfl, fun W hW => ?_⟩) hS ?_
  rotate_left
  · obtain ⟨hw1, hw2⟩ := hW; go_simp; (try go_bits); (try rw [if_pos (by omega)]); (try with_reducible rfl)
  (try simp only [Act.put, List.setIfInBounds_toArray, List.set_cons_succ, List.set_cons_zero])
  refine wpE_take (i := 3) (oi := { dst := some 19, op := Go.Op.load 47 (Go.Operand.tmp 7), type := 47, pos := "iommu.go:88", after := #[], guard := none }) (v := ?_) rfl (by kernel_rfl) (fun _ _ _ h => h) (Or.inl ⟨by rfl, fun W hW => ?_⟩) hS ?_
  rotate_left
  · obtain ⟨hw1, hw2⟩ := hW; go_simp; (try go_bits); (try rw [if_pos (by omega)]); (try with_reducible rfl)
  (try simp only [Act.put, List.setIfInBounds_toArray, List.set_cons_succ, List.set_cons_zero])
  refine wpE_take (i := 4) (oi := { dst := some 20, op := Go.Op.nilCheck (Go.Operand.tmp 16), type := 0, pos := "iommu.go:88", after := #[{ on := 0, ground := Go.Ground.data }], guard := none }) (v := ?_) rfl (by kernel_rfl) (fun _ _ _ h => h) (Or.inl ⟨by rfl, fun W hW => ?_⟩) hS ?_
  rotate_left
  · obtain ⟨hw1, hw2⟩ := hW; go_simp; (try go_bits); (try rw [if_pos (by omega)]); (try with_reducible rfl)
  (try simp only [Act.put, List.setIfInBounds_toArray, List.set_cons_succ, List.set_cons_zero])
  refine wpE_take (i := 5) (oi := { dst := some 21, op := Go.Op.fieldAddr 101 (Go.Operand.tmp 20) 2, type := 0, pos := "iommu.go:88", after := #[{ on := 4, ground := Go.Ground.data }], guard := none }) (v := ?_) rfl (by kernel_rfl) (fun _ _ _ h => h) (Or.inl ⟨by rfl, fun W hW => ?_⟩) hS ?_
  rotate_left
  · obtain ⟨hw1, hw2⟩ := hW; go_simp; (try go_bits); (try rw [if_pos (by omega)]); (try with_reducible rfl)
  (try simp only [Act.put, List.setIfInBounds_toArray, List.set_cons_succ, List.set_cons_zero])
  refine wpE_take (i := 6) (oi := { dst := some 22, op := Go.Op.indexAddr 99 (Go.Operand.tmp 21) (Go.Operand.tmp 17), type := 0, pos := "iommu.go:88", after := #[{ on := 5, ground := Go.Ground.data }, { on := 1, ground := Go.Ground.data }], guard := none }) (v := ?_) rfl (by kernel_rfl) (fun _ _ _ h => h) (Or.inl ⟨by rfl, fun W hW => ?_⟩) hS ?_
  rotate_left
  · obtain ⟨hw1, hw2⟩ := hW; go_simp; (try go_bits); (try rw [if_pos (by omega)]); (try with_reducible rfl)
  (try simp only [Act.put, List.setIfInBounds_toArray, List.set_cons_succ, List.set_cons_zero])
  refine wpE_take (i := 7) (oi := { dst := some 23, op := Go.Op.fieldAddr 98 (Go.Operand.tmp 22) 1, type := 0, pos := "iommu.go:88", after := #[{ on := 6, ground := Go.Ground.data }], guard := none }) (v := ?_) rfl (by kernel_rfl) (fun _ _ _ h => h) (Or.inl ⟨by rfl, fun W hW => ?_⟩) hS ?_
  rotate_left
  · obtain ⟨hw1, hw2⟩ := hW; go_simp; (try go_bits); (try rw [if_pos (by omega)]); (try with_reducible rfl)
  (try simp only [Act.put, List.setIfInBounds_toArray, List.set_cons_succ, List.set_cons_zero])
  refine wpE_take (i := 8) (oi := { dst := some 24, op := Go.Op.indexAddr 96 (Go.Operand.tmp 23) (Go.Operand.tmp 18), type := 0, pos := "iommu.go:88", after := #[{ on := 7, ground := Go.Ground.data }, { on := 2, ground := Go.Ground.data }, { on := 0, ground := Go.Ground.phase }, { on := 1, ground := Go.Ground.phase }, { on := 2, ground := Go.Ground.phase }, { on := 3, ground := Go.Ground.phase }], guard := none }) (v := ?_) rfl (by kernel_rfl) (fun _ _ _ h => h) (Or.inl ⟨by rfl, fun W hW => ?_⟩) hS ?_
  rotate_left
  · obtain ⟨hw1, hw2⟩ := hW; go_simp; (try go_bits); (try rw [if_pos (by omega)]); (try with_reducible rfl)
  (try simp only [Act.put, List.setIfInBounds_toArray, List.set_cons_succ, List.set_cons_zero])
  refine wpE_last (oi := { dst := none, op := Go.Op.store 47 (Go.Operand.tmp 24) (Go.Operand.tmp 19), type := 0, pos := "iommu.go:88", after := #[{ on := 8, ground := Go.Ground.data }, { on := 3, ground := Go.Ground.data }, { on := 0, ground := Go.Ground.phase }, { on := 1, ground := Go.Ground.phase }, { on := 2, ground := Go.Ground.phase }, { on := 3, ground := Go.Ground.phase }], guard := none }) rfl (by kernel_rfl) (by kernel_rfl) (by rfl) (fun K hK => ?_)
  go_simp; (try go_bits); refine hK _ _ ?_; clear hK K
  clear hS
  go_wp2
  go_ret
  exact ⟨rfl, HR.out⟩
end
end Go.Proofs.YtonhlgfgbdiapaaGreat
