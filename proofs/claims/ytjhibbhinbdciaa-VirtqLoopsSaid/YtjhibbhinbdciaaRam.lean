import Derived.Test.YtjhibbhinbdciaaMem
import Derived.Test.YtjhibbhinbdciaaMake
import Derived.Test.YtjhibbhinbdciaaChecked
/- RAM (ram.RAM): what its functions do. -/
namespace Go.Proofs.Ytjhibbhinbdciaa
set_option linter.unusedVariables false
open Go.RowKit
set_option maxRecDepth 100000

/-- a pointer to a frame, nil let in -/
def ptrV : Option Nat → Value
  | none => .pointer none
  | some b => .pointer (some ⟨b, 0, none⟩)
def ramK : MK := ⟨107, 111, 113, fun base q n => #[.int .u64 (base : Int), .slice (some ⟨q, 0, none⟩) n n], ptrV, by decide, by decide, by decide⟩
theorem ram_size {p len cap : Nat} {A : Option Addr} {w : World} (hb : w.cell? ⟨p, 1, none⟩ = some (.slice A len cap)) (hn : len ≤ 1024) :
    Calls Try.prog 57 #[.pointer (some ⟨p, 0, none⟩)] w fun e w' => e = .returned (.int .u64 ((len * 4096 : Nat) : Int)) ∧ w = w' := by
  go_enter Try.func57, Try.ntmps57
  go_wp2
  go_ret
  exact ⟨by go_num, rfl⟩
set_option maxHeartbeats 2000000 in
theorem ram_Has {p base len cap : Nat} {A : Option Addr} {w : World} (h0 : w.cell? ⟨p, 0, none⟩ = some (.int .u64 (base : Int))) (hb : w.cell? ⟨p, 1, none⟩ = some (.slice A len cap)) (hn : len ≤ 1024) (hbd : base ≤ 4503599627370496)
    (addr size : Int) (ha0 : 0 ≤ addr) (ha1 : addr < 18446744073709551616) (hs0 : -9223372036854775808 ≤ size) (hs1 : size ≤ 9223372036854775807) :
    Calls Try.prog 41 #[.pointer (some ⟨p, 0, none⟩), .int .u64 addr, .int .i64 size] w fun e w' => e = .returned (.bool (hasR base len addr size)) ∧ ∃ k, w' = w.drewN k := by
  have HS := Lib.hid (fun k => ram_size (p := p) (w := w.drewN k) hb hn)
  by_cases hz : size < 0
  · have hr : hasR base len addr size = false := by simp [hasR]; omega
    rw [hr]
    go_enter Try.func41, Try.ntmps41
    go_wp2
    refine wpE_region (S := fun (W' : World) => ∃ k, W' = w.drewN k) (s := 20) (by kernel_rfl) ?_
    have hS : (fun (W' : World) => ∃ k, W' = w.drewN k) _ := ⟨1, rfl⟩
    refine wpE_take (i := 0) (oi := { dst := some 7, op := Go.Op.move (Go.Operand.tmp 2), type := 3, pos := "ram.go:34", after := #[], guard := none }) (v := ?_) rfl (by kernel_rfl) (fun _ _ _ h => h) (Or.inl ⟨by rfl, fun W hW => ?_⟩) hS ?_
    rotate_left
    · obtain ⟨k', rfl⟩ := hW; go_simp; (try go_bits); (try rw [if_pos (by omega)]); (try with_reducible rfl)
    (try simp only [Act.put, List.setIfInBounds_toArray, List.set_cons_succ, List.set_cons_zero])
    refine wpE_take (i := 1) (oi := { dst := some 8, op := Go.Op.binOp Go.BinOp.lss 3 (Go.Operand.tmp 7) (Go.Operand.const (Go.Value.int Go.IntKind.i64 0)) 3, type := 4, pos := "ram.go:34", after := #[{ on := 0, ground := Go.Ground.data }], guard := none }) (v := ?_) rfl (by kernel_rfl) (fun _ _ _ h => h) (Or.inl ⟨by rfl, fun W hW => ?_⟩) hS ?_
    rotate_left
    · obtain ⟨k', rfl⟩ := hW; go_simp; (try go_bits); (try rw [if_pos (by omega)]); (try with_reducible rfl)
    (try simp only [Act.put, List.setIfInBounds_toArray, List.set_cons_succ, List.set_cons_zero])
    refine wpE_take (i := 2) (oi := { dst := some 9, op := Go.Op.move (Go.Operand.tmp 8), type := 4, pos := "ram.go:34", after := #[{ on := 1, ground := Go.Ground.data }], guard := none }) (v := ?_) rfl (by kernel_rfl) (fun _ _ _ h => h) (Or.inl ⟨by rfl, fun W hW => ?_⟩) hS ?_
    rotate_left
    · obtain ⟨k', rfl⟩ := hW; go_simp; (try go_bits); (try rw [if_pos (by omega)]); (try with_reducible rfl)
    (try simp only [Act.put, List.setIfInBounds_toArray, List.set_cons_succ, List.set_cons_zero])
    refine wpE_take (i := 3) (oi := { dst := some 10, op := Go.Op.move (Go.Operand.tmp 1), type := 29, pos := "ram.go:34", after := #[{ on := 2, ground := Go.Ground.guard }], guard := some (2, false) }) (v := undef) rfl (by kernel_rfl) (fun _ _ _ h => h) (Or.inr ⟨by rfl, rfl⟩) hS ?_
    (try simp only [Act.put, List.setIfInBounds_toArray, List.set_cons_succ, List.set_cons_zero])
    refine wpE_take (i := 4) (oi := { dst := some 11, op := Go.Op.move (Go.Operand.tmp 0), type := 23, pos := "ram.go:34", after := #[{ on := 2, ground := Go.Ground.guard }], guard := some (2, false) }) (v := undef) rfl (by kernel_rfl) (fun _ _ _ h => h) (Or.inr ⟨by rfl, rfl⟩) hS ?_
    (try simp only [Act.put, List.setIfInBounds_toArray, List.set_cons_succ, List.set_cons_zero])
    refine wpE_take (i := 5) (oi := { dst := some 12, op := Go.Op.nilCheck (Go.Operand.tmp 11), type := 0, pos := "ram.go:34", after := #[{ on := 4, ground := Go.Ground.data }, { on := 2, ground := Go.Ground.guard }], guard := some (2, false) }) (v := undef) rfl (by kernel_rfl) (fun _ _ _ h => h) (Or.inr ⟨by rfl, rfl⟩) hS ?_
    (try simp only [Act.put, List.setIfInBounds_toArray, List.set_cons_succ, List.set_cons_zero])
    refine wpE_take (i := 6) (oi := { dst := some 13, op := Go.Op.fieldAddr 107 (Go.Operand.tmp 12) 0, type := 0, pos := "ram.go:34", after := #[{ on := 5, ground := Go.Ground.data }, { on := 2, ground := Go.Ground.guard }], guard := some (2, false) }) (v := undef) rfl (by kernel_rfl) (fun _ _ _ h => h) (Or.inr ⟨by rfl, rfl⟩) hS ?_
    (try simp only [Act.put, List.setIfInBounds_toArray, List.set_cons_succ, List.set_cons_zero])
    refine wpE_take (i := 7) (oi := { dst := some 14, op := Go.Op.load 29 (Go.Operand.tmp 13), type := 29, pos := "ram.go:34", after := #[{ on := 6, ground := Go.Ground.data }, { on := 2, ground := Go.Ground.guard }], guard := some (2, false) }) (v := undef) rfl (by kernel_rfl) (fun _ _ _ h => h) (Or.inr ⟨by rfl, rfl⟩) hS ?_
    (try simp only [Act.put, List.setIfInBounds_toArray, List.set_cons_succ, List.set_cons_zero])
    refine wpE_take (i := 8) (oi := { dst := some 15, op := Go.Op.binOp Go.BinOp.lss 29 (Go.Operand.tmp 10) (Go.Operand.tmp 14) 29, type := 4, pos := "ram.go:34", after := #[{ on := 3, ground := Go.Ground.data }, { on := 7, ground := Go.Ground.data }, { on := 2, ground := Go.Ground.guard }], guard := some (2, false) }) (v := undef) rfl (by kernel_rfl) (fun _ _ _ h => h) (Or.inr ⟨by rfl, rfl⟩) hS ?_
    (try simp only [Act.put, List.setIfInBounds_toArray, List.set_cons_succ, List.set_cons_zero])
    refine wpE_take (i := 9) (oi := { dst := some 16, op := Go.Op.pick (Go.Operand.tmp 9) (Go.Operand.const (Go.Value.bool true)) (Go.Operand.tmp 15), type := 4, pos := "ram.go:34", after := #[{ on := 2, ground := Go.Ground.data }, { on := 8, ground := Go.Ground.data }], guard := none }) (v := ?_) rfl (by kernel_rfl) (fun _ _ _ h => h) (Or.inl ⟨by rfl, fun W hW => ?_⟩) hS ?_
    rotate_left
    · obtain ⟨k', rfl⟩ := hW; go_simp; (try go_bits); (try rw [if_pos (by omega)]); (try with_reducible rfl)
    (try simp only [Act.put, List.setIfInBounds_toArray, List.set_cons_succ, List.set_cons_zero])
    refine wpE_take (i := 10) (oi := { dst := some 17, op := Go.Op.move (Go.Operand.tmp 16), type := 4, pos := "ram.go:34", after := #[{ on := 9, ground := Go.Ground.data }, { on := 2, ground := Go.Ground.chain }], guard := none }) (v := ?_) rfl (by kernel_rfl) (fun _ _ _ h => h) (Or.inl ⟨by rfl, fun W hW => ?_⟩) hS ?_
    rotate_left
    · obtain ⟨k', rfl⟩ := hW; go_simp; (try go_bits); (try rw [if_pos (by omega)]); (try with_reducible rfl)
    (try simp only [Act.put, List.setIfInBounds_toArray, List.set_cons_succ, List.set_cons_zero])
    refine wpE_take (i := 11) (oi := { dst := some 18, op := Go.Op.move (Go.Operand.tmp 1), type := 29, pos := "ram.go:34", after := #[{ on := 10, ground := Go.Ground.guard }], guard := some (10, false) }) (v := undef) rfl (by kernel_rfl) (fun _ _ _ h => h) (Or.inr ⟨by rfl, rfl⟩) hS ?_
    (try simp only [Act.put, List.setIfInBounds_toArray, List.set_cons_succ, List.set_cons_zero])
    refine wpE_take (i := 12) (oi := { dst := some 19, op := Go.Op.move (Go.Operand.tmp 0), type := 23, pos := "ram.go:34", after := #[{ on := 10, ground := Go.Ground.guard }], guard := some (10, false) }) (v := undef) rfl (by kernel_rfl) (fun _ _ _ h => h) (Or.inr ⟨by rfl, rfl⟩) hS ?_
    (try simp only [Act.put, List.setIfInBounds_toArray, List.set_cons_succ, List.set_cons_zero])
    refine wpE_take (i := 13) (oi := { dst := some 20, op := Go.Op.nilCheck (Go.Operand.tmp 19), type := 0, pos := "ram.go:34", after := #[{ on := 12, ground := Go.Ground.data }, { on := 10, ground := Go.Ground.guard }], guard := some (10, false) }) (v := undef) rfl (by kernel_rfl) (fun _ _ _ h => h) (Or.inr ⟨by rfl, rfl⟩) hS ?_
    (try simp only [Act.put, List.setIfInBounds_toArray, List.set_cons_succ, List.set_cons_zero])
    refine wpE_take (i := 14) (oi := { dst := some 21, op := Go.Op.fieldAddr 107 (Go.Operand.tmp 20) 0, type := 0, pos := "ram.go:34", after := #[{ on := 13, ground := Go.Ground.data }, { on := 10, ground := Go.Ground.guard }], guard := some (10, false) }) (v := undef) rfl (by kernel_rfl) (fun _ _ _ h => h) (Or.inr ⟨by rfl, rfl⟩) hS ?_
    (try simp only [Act.put, List.setIfInBounds_toArray, List.set_cons_succ, List.set_cons_zero])
    refine wpE_take (i := 15) (oi := { dst := some 22, op := Go.Op.load 29 (Go.Operand.tmp 21), type := 29, pos := "ram.go:34", after := #[{ on := 14, ground := Go.Ground.data }, { on := 10, ground := Go.Ground.guard }], guard := some (10, false) }) (v := undef) rfl (by kernel_rfl) (fun _ _ _ h => h) (Or.inr ⟨by rfl, rfl⟩) hS ?_
    (try simp only [Act.put, List.setIfInBounds_toArray, List.set_cons_succ, List.set_cons_zero])
    refine wpE_take (i := 16) (oi := { dst := some 23, op := Go.Op.binOp Go.BinOp.sub 29 (Go.Operand.tmp 18) (Go.Operand.tmp 22) 29, type := 29, pos := "ram.go:34", after := #[{ on := 11, ground := Go.Ground.data }, { on := 15, ground := Go.Ground.data }, { on := 10, ground := Go.Ground.guard }], guard := some (10, false) }) (v := undef) rfl (by kernel_rfl) (fun _ _ _ h => h) (Or.inr ⟨by rfl, rfl⟩) hS ?_
    (try simp only [Act.put, List.setIfInBounds_toArray, List.set_cons_succ, List.set_cons_zero])
    refine wpE_take (i := 17) (oi := { dst := some 24, op := Go.Op.move (Go.Operand.tmp 0), type := 23, pos := "ram.go:34", after := #[{ on := 10, ground := Go.Ground.guard }], guard := some (10, false) }) (v := undef) rfl (by kernel_rfl) (fun _ _ _ h => h) (Or.inr ⟨by rfl, rfl⟩) hS ?_
    (try simp only [Act.put, List.setIfInBounds_toArray, List.set_cons_succ, List.set_cons_zero])
    refine wpE_take (i := 18) (oi := { dst := some 25, op := Go.Op.call { callee := Go.Callee.value (Go.Operand.func 57), args := #[Go.Operand.tmp 24], argTypes := #[23] }, type := 29, pos := "ram.go:34", after := #[{ on := 17, ground := Go.Ground.data }, { on := 10, ground := Go.Ground.chain }, { on := 10, ground := Go.Ground.guard }], guard := some (10, false) }) (v := undef) rfl (by kernel_rfl) (fun _ _ _ h => h) (Or.inr ⟨by rfl, rfl⟩) hS ?_
    (try simp only [Act.put, List.setIfInBounds_toArray, List.set_cons_succ, List.set_cons_zero])
    refine wpE_take (i := 19) (oi := { dst := some 26, op := Go.Op.binOp Go.BinOp.gtr 29 (Go.Operand.tmp 23) (Go.Operand.tmp 25) 29, type := 4, pos := "ram.go:34", after := #[{ on := 16, ground := Go.Ground.data }, { on := 18, ground := Go.Ground.data }, { on := 10, ground := Go.Ground.guard }], guard := some (10, false) }) (v := undef) rfl (by kernel_rfl) (fun _ _ _ h => h) (Or.inr ⟨by rfl, rfl⟩) hS ?_
    (try simp only [Act.put, List.setIfInBounds_toArray, List.set_cons_succ, List.set_cons_zero])
    refine wpE_last (oi := { dst := some 27, op := Go.Op.pick (Go.Operand.tmp 17) (Go.Operand.const (Go.Value.bool true)) (Go.Operand.tmp 26), type := 4, pos := "ram.go:34", after := #[{ on := 10, ground := Go.Ground.data }, { on := 19, ground := Go.Ground.data }], guard := none }) rfl (by kernel_rfl) (by kernel_rfl) (by rfl) (fun K hK => ?_)
    go_simp; (try go_bits); refine hK _ _ ?_; clear hK K
    go_wp2
    go_ret
    exact ⟨rfl, 1, rfl⟩
  have hz' : decide (size < 0) = false := by simp; omega
  by_cases hl : addr < base
  · have hr : hasR base len addr size = false := by simp [hasR]; omega
    have hl' : decide (addr < base) = true := by simp; omega
    rw [hr]
    go_enter Try.func41, Try.ntmps41
    go_wp2
    refine wpE_region (S := fun (W' : World) => ∃ k, W' = w.drewN k) (s := 20) (by kernel_rfl) ?_
    have hS : (fun (W' : World) => ∃ k, W' = w.drewN k) _ := ⟨1, rfl⟩
    refine wpE_take (i := 0) (oi := { dst := some 7, op := Go.Op.move (Go.Operand.tmp 2), type := 3, pos := "ram.go:34", after := #[], guard := none }) (v := ?_) rfl (by kernel_rfl) (fun _ _ _ h => h) (Or.inl ⟨by rfl, fun W hW => ?_⟩) hS ?_
    rotate_left
    · obtain ⟨k', rfl⟩ := hW; go_simp; (try go_bits); (try rw [if_pos (by omega)]); (try with_reducible rfl)
    (try simp only [Act.put, List.setIfInBounds_toArray, List.set_cons_succ, List.set_cons_zero])
    refine wpE_take (i := 1) (oi := { dst := some 8, op := Go.Op.binOp Go.BinOp.lss 3 (Go.Operand.tmp 7) (Go.Operand.const (Go.Value.int Go.IntKind.i64 0)) 3, type := 4, pos := "ram.go:34", after := #[{ on := 0, ground := Go.Ground.data }], guard := none }) (v := .bool false) rfl (by kernel_rfl) (fun _ _ _ h => h) (Or.inl ⟨by rfl, fun W hW => ?_⟩) hS ?_
    · obtain ⟨k', rfl⟩ := hW; go_simp
    (try simp only [Act.put, List.setIfInBounds_toArray, List.set_cons_succ, List.set_cons_zero])
    refine wpE_take (i := 2) (oi := { dst := some 9, op := Go.Op.move (Go.Operand.tmp 8), type := 4, pos := "ram.go:34", after := #[{ on := 1, ground := Go.Ground.data }], guard := none }) (v := ?_) rfl (by kernel_rfl) (fun _ _ _ h => h) (Or.inl ⟨by rfl, fun W hW => ?_⟩) hS ?_
    rotate_left
    · obtain ⟨k', rfl⟩ := hW; go_simp; (try go_bits); (try rw [if_pos (by omega)]); (try with_reducible rfl)
    (try simp only [Act.put, List.setIfInBounds_toArray, List.set_cons_succ, List.set_cons_zero])
    refine wpE_take (i := 3) (oi := { dst := some 10, op := Go.Op.move (Go.Operand.tmp 1), type := 29, pos := "ram.go:34", after := #[{ on := 2, ground := Go.Ground.guard }], guard := some (2, false) }) (v := ?_) rfl (by kernel_rfl) (fun _ _ _ h => h) (Or.inl ⟨by rfl, fun W hW => ?_⟩) hS ?_
    rotate_left
    · obtain ⟨k', rfl⟩ := hW; go_simp; (try go_bits); (try rw [if_pos (by omega)]); (try with_reducible rfl)
    (try simp only [Act.put, List.setIfInBounds_toArray, List.set_cons_succ, List.set_cons_zero])
    refine wpE_take (i := 4) (oi := { dst := some 11, op := Go.Op.move (Go.Operand.tmp 0), type := 23, pos := "ram.go:34", after := #[{ on := 2, ground := Go.Ground.guard }], guard := some (2, false) }) (v := ?_) rfl (by kernel_rfl) (fun _ _ _ h => h) (Or.inl ⟨by rfl, fun W hW => ?_⟩) hS ?_
    rotate_left
    · obtain ⟨k', rfl⟩ := hW; go_simp; (try go_bits); (try rw [if_pos (by omega)]); (try with_reducible rfl)
    (try simp only [Act.put, List.setIfInBounds_toArray, List.set_cons_succ, List.set_cons_zero])
    refine wpE_take (i := 5) (oi := { dst := some 12, op := Go.Op.nilCheck (Go.Operand.tmp 11), type := 0, pos := "ram.go:34", after := #[{ on := 4, ground := Go.Ground.data }, { on := 2, ground := Go.Ground.guard }], guard := some (2, false) }) (v := ?_) rfl (by kernel_rfl) (fun _ _ _ h => h) (Or.inl ⟨by rfl, fun W hW => ?_⟩) hS ?_
    rotate_left
    · obtain ⟨k', rfl⟩ := hW; go_simp; (try go_bits); (try rw [if_pos (by omega)]); (try with_reducible rfl)
    (try simp only [Act.put, List.setIfInBounds_toArray, List.set_cons_succ, List.set_cons_zero])
    refine wpE_take (i := 6) (oi := { dst := some 13, op := Go.Op.fieldAddr 107 (Go.Operand.tmp 12) 0, type := 0, pos := "ram.go:34", after := #[{ on := 5, ground := Go.Ground.data }, { on := 2, ground := Go.Ground.guard }], guard := some (2, false) }) (v := ?_) rfl (by kernel_rfl) (fun _ _ _ h => h) (Or.inl ⟨by rfl, fun W hW => ?_⟩) hS ?_
    rotate_left
    · obtain ⟨k', rfl⟩ := hW; go_simp; (try go_bits); (try rw [if_pos (by omega)]); (try with_reducible rfl)
    (try simp only [Act.put, List.setIfInBounds_toArray, List.set_cons_succ, List.set_cons_zero])
    refine wpE_take (i := 7) (oi := { dst := some 14, op := Go.Op.load 29 (Go.Operand.tmp 13), type := 29, pos := "ram.go:34", after := #[{ on := 6, ground := Go.Ground.data }, { on := 2, ground := Go.Ground.guard }], guard := some (2, false) }) (v := ?_) rfl (by kernel_rfl) (fun _ _ _ h => h) (Or.inl ⟨by rfl, fun W hW => ?_⟩) hS ?_
    rotate_left
    · obtain ⟨k', rfl⟩ := hW; go_simp; (try go_bits); (try rw [if_pos (by omega)]); (try with_reducible rfl)
    (try simp only [Act.put, List.setIfInBounds_toArray, List.set_cons_succ, List.set_cons_zero])
    refine wpE_take (i := 8) (oi := { dst := some 15, op := Go.Op.binOp Go.BinOp.lss 29 (Go.Operand.tmp 10) (Go.Operand.tmp 14) 29, type := 4, pos := "ram.go:34", after := #[{ on := 3, ground := Go.Ground.data }, { on := 7, ground := Go.Ground.data }, { on := 2, ground := Go.Ground.guard }], guard := some (2, false) }) (v := .bool true) rfl (by kernel_rfl) (fun _ _ _ h => h) (Or.inl ⟨by rfl, fun W hW => ?_⟩) hS ?_
    · obtain ⟨k', rfl⟩ := hW; go_simp
    (try simp only [Act.put, List.setIfInBounds_toArray, List.set_cons_succ, List.set_cons_zero])
    refine wpE_take (i := 9) (oi := { dst := some 16, op := Go.Op.pick (Go.Operand.tmp 9) (Go.Operand.const (Go.Value.bool true)) (Go.Operand.tmp 15), type := 4, pos := "ram.go:34", after := #[{ on := 2, ground := Go.Ground.data }, { on := 8, ground := Go.Ground.data }], guard := none }) (v := ?_) rfl (by kernel_rfl) (fun _ _ _ h => h) (Or.inl ⟨by rfl, fun W hW => ?_⟩) hS ?_
    rotate_left
    · obtain ⟨k', rfl⟩ := hW; go_simp; (try go_bits); (try rw [if_pos (by omega)]); (try with_reducible rfl)
    (try simp only [Act.put, List.setIfInBounds_toArray, List.set_cons_succ, List.set_cons_zero])
    refine wpE_take (i := 10) (oi := { dst := some 17, op := Go.Op.move (Go.Operand.tmp 16), type := 4, pos := "ram.go:34", after := #[{ on := 9, ground := Go.Ground.data }, { on := 2, ground := Go.Ground.chain }], guard := none }) (v := ?_) rfl (by kernel_rfl) (fun _ _ _ h => h) (Or.inl ⟨by rfl, fun W hW => ?_⟩) hS ?_
    rotate_left
    · obtain ⟨k', rfl⟩ := hW; go_simp; (try go_bits); (try rw [if_pos (by omega)]); (try with_reducible rfl)
    (try simp only [Act.put, List.setIfInBounds_toArray, List.set_cons_succ, List.set_cons_zero])
    refine wpE_take (i := 11) (oi := { dst := some 18, op := Go.Op.move (Go.Operand.tmp 1), type := 29, pos := "ram.go:34", after := #[{ on := 10, ground := Go.Ground.guard }], guard := some (10, false) }) (v := undef) rfl (by kernel_rfl) (fun _ _ _ h => h) (Or.inr ⟨by rfl, rfl⟩) hS ?_
    (try simp only [Act.put, List.setIfInBounds_toArray, List.set_cons_succ, List.set_cons_zero])
    refine wpE_take (i := 12) (oi := { dst := some 19, op := Go.Op.move (Go.Operand.tmp 0), type := 23, pos := "ram.go:34", after := #[{ on := 10, ground := Go.Ground.guard }], guard := some (10, false) }) (v := undef) rfl (by kernel_rfl) (fun _ _ _ h => h) (Or.inr ⟨by rfl, rfl⟩) hS ?_
    (try simp only [Act.put, List.setIfInBounds_toArray, List.set_cons_succ, List.set_cons_zero])
    refine wpE_take (i := 13) (oi := { dst := some 20, op := Go.Op.nilCheck (Go.Operand.tmp 19), type := 0, pos := "ram.go:34", after := #[{ on := 12, ground := Go.Ground.data }, { on := 10, ground := Go.Ground.guard }], guard := some (10, false) }) (v := undef) rfl (by kernel_rfl) (fun _ _ _ h => h) (Or.inr ⟨by rfl, rfl⟩) hS ?_
    (try simp only [Act.put, List.setIfInBounds_toArray, List.set_cons_succ, List.set_cons_zero])
    refine wpE_take (i := 14) (oi := { dst := some 21, op := Go.Op.fieldAddr 107 (Go.Operand.tmp 20) 0, type := 0, pos := "ram.go:34", after := #[{ on := 13, ground := Go.Ground.data }, { on := 10, ground := Go.Ground.guard }], guard := some (10, false) }) (v := undef) rfl (by kernel_rfl) (fun _ _ _ h => h) (Or.inr ⟨by rfl, rfl⟩) hS ?_
    (try simp only [Act.put, List.setIfInBounds_toArray, List.set_cons_succ, List.set_cons_zero])
    refine wpE_take (i := 15) (oi := { dst := some 22, op := Go.Op.load 29 (Go.Operand.tmp 21), type := 29, pos := "ram.go:34", after := #[{ on := 14, ground := Go.Ground.data }, { on := 10, ground := Go.Ground.guard }], guard := some (10, false) }) (v := undef) rfl (by kernel_rfl) (fun _ _ _ h => h) (Or.inr ⟨by rfl, rfl⟩) hS ?_
    (try simp only [Act.put, List.setIfInBounds_toArray, List.set_cons_succ, List.set_cons_zero])
    refine wpE_take (i := 16) (oi := { dst := some 23, op := Go.Op.binOp Go.BinOp.sub 29 (Go.Operand.tmp 18) (Go.Operand.tmp 22) 29, type := 29, pos := "ram.go:34", after := #[{ on := 11, ground := Go.Ground.data }, { on := 15, ground := Go.Ground.data }, { on := 10, ground := Go.Ground.guard }], guard := some (10, false) }) (v := undef) rfl (by kernel_rfl) (fun _ _ _ h => h) (Or.inr ⟨by rfl, rfl⟩) hS ?_
    (try simp only [Act.put, List.setIfInBounds_toArray, List.set_cons_succ, List.set_cons_zero])
    refine wpE_take (i := 17) (oi := { dst := some 24, op := Go.Op.move (Go.Operand.tmp 0), type := 23, pos := "ram.go:34", after := #[{ on := 10, ground := Go.Ground.guard }], guard := some (10, false) }) (v := undef) rfl (by kernel_rfl) (fun _ _ _ h => h) (Or.inr ⟨by rfl, rfl⟩) hS ?_
    (try simp only [Act.put, List.setIfInBounds_toArray, List.set_cons_succ, List.set_cons_zero])
    refine wpE_take (i := 18) (oi := { dst := some 25, op := Go.Op.call { callee := Go.Callee.value (Go.Operand.func 57), args := #[Go.Operand.tmp 24], argTypes := #[23] }, type := 29, pos := "ram.go:34", after := #[{ on := 17, ground := Go.Ground.data }, { on := 10, ground := Go.Ground.chain }, { on := 10, ground := Go.Ground.guard }], guard := some (10, false) }) (v := undef) rfl (by kernel_rfl) (fun _ _ _ h => h) (Or.inr ⟨by rfl, rfl⟩) hS ?_
    (try simp only [Act.put, List.setIfInBounds_toArray, List.set_cons_succ, List.set_cons_zero])
    refine wpE_take (i := 19) (oi := { dst := some 26, op := Go.Op.binOp Go.BinOp.gtr 29 (Go.Operand.tmp 23) (Go.Operand.tmp 25) 29, type := 4, pos := "ram.go:34", after := #[{ on := 16, ground := Go.Ground.data }, { on := 18, ground := Go.Ground.data }, { on := 10, ground := Go.Ground.guard }], guard := some (10, false) }) (v := undef) rfl (by kernel_rfl) (fun _ _ _ h => h) (Or.inr ⟨by rfl, rfl⟩) hS ?_
    (try simp only [Act.put, List.setIfInBounds_toArray, List.set_cons_succ, List.set_cons_zero])
    refine wpE_last (oi := { dst := some 27, op := Go.Op.pick (Go.Operand.tmp 17) (Go.Operand.const (Go.Value.bool true)) (Go.Operand.tmp 26), type := 4, pos := "ram.go:34", after := #[{ on := 10, ground := Go.Ground.data }, { on := 19, ground := Go.Ground.data }], guard := none }) rfl (by kernel_rfl) (by kernel_rfl) (by rfl) (fun K hK => ?_)
    go_simp; (try go_bits); refine hK _ _ ?_; clear hK K
    go_wp2
    go_ret
    exact ⟨rfl, 1, rfl⟩
  have hw : IntKind.u64.wrap (addr - base) = addr - base := IntWalk.u64_in _ (by omega)
  have hl' : decide (addr < base) = false := by simp; omega
  have hlen : len * 4096 ≤ 4194304 := by omega
  by_cases hg : addr - base ≤ (len * 4096 : Nat)
  · have hg' : decide ((len * 4096 : Nat) < addr - base) = false := by simp; omega
    have hr : hasR base len addr size = decide (size ≤ (len * 4096 : Nat) - (addr - base)) := decide_eq_decide.2 ⟨fun h => h.2.2.2, fun h => ⟨by omega, by omega, hg, h⟩⟩
    rw [hr]
    generalize len * 4096 = total at *
    go_enter Try.func41, Try.ntmps41
    go_wp2
    refine wpE_region (S := fun (W' : World) => ∃ k, W' = w.drewN k) (s := 20) (by kernel_rfl) ?_
    have hS : (fun (W' : World) => ∃ k, W' = w.drewN k) _ := ⟨1, rfl⟩
    refine wpE_take (i := 0) (oi := { dst := some 7, op := Go.Op.move (Go.Operand.tmp 2), type := 3, pos := "ram.go:34", after := #[], guard := none }) (v := ?_) rfl (by kernel_rfl) (fun _ _ _ h => h) (Or.inl ⟨by rfl, fun W hW => ?_⟩) hS ?_
    rotate_left
    · obtain ⟨k', rfl⟩ := hW; go_simp; (try go_bits); (try rw [if_pos (by omega)]); (try with_reducible rfl)
    (try simp only [Act.put, List.setIfInBounds_toArray, List.set_cons_succ, List.set_cons_zero])
    refine wpE_take (i := 1) (oi := { dst := some 8, op := Go.Op.binOp Go.BinOp.lss 3 (Go.Operand.tmp 7) (Go.Operand.const (Go.Value.int Go.IntKind.i64 0)) 3, type := 4, pos := "ram.go:34", after := #[{ on := 0, ground := Go.Ground.data }], guard := none }) (v := .bool false) rfl (by kernel_rfl) (fun _ _ _ h => h) (Or.inl ⟨by rfl, fun W hW => ?_⟩) hS ?_
    · obtain ⟨k', rfl⟩ := hW; go_simp
    (try simp only [Act.put, List.setIfInBounds_toArray, List.set_cons_succ, List.set_cons_zero])
    refine wpE_take (i := 2) (oi := { dst := some 9, op := Go.Op.move (Go.Operand.tmp 8), type := 4, pos := "ram.go:34", after := #[{ on := 1, ground := Go.Ground.data }], guard := none }) (v := ?_) rfl (by kernel_rfl) (fun _ _ _ h => h) (Or.inl ⟨by rfl, fun W hW => ?_⟩) hS ?_
    rotate_left
    · obtain ⟨k', rfl⟩ := hW; go_simp; (try go_bits); (try rw [if_pos (by omega)]); (try with_reducible rfl)
    (try simp only [Act.put, List.setIfInBounds_toArray, List.set_cons_succ, List.set_cons_zero])
    refine wpE_take (i := 3) (oi := { dst := some 10, op := Go.Op.move (Go.Operand.tmp 1), type := 29, pos := "ram.go:34", after := #[{ on := 2, ground := Go.Ground.guard }], guard := some (2, false) }) (v := ?_) rfl (by kernel_rfl) (fun _ _ _ h => h) (Or.inl ⟨by rfl, fun W hW => ?_⟩) hS ?_
    rotate_left
    · obtain ⟨k', rfl⟩ := hW; go_simp; (try go_bits); (try rw [if_pos (by omega)]); (try with_reducible rfl)
    (try simp only [Act.put, List.setIfInBounds_toArray, List.set_cons_succ, List.set_cons_zero])
    refine wpE_take (i := 4) (oi := { dst := some 11, op := Go.Op.move (Go.Operand.tmp 0), type := 23, pos := "ram.go:34", after := #[{ on := 2, ground := Go.Ground.guard }], guard := some (2, false) }) (v := ?_) rfl (by kernel_rfl) (fun _ _ _ h => h) (Or.inl ⟨by rfl, fun W hW => ?_⟩) hS ?_
    rotate_left
    · obtain ⟨k', rfl⟩ := hW; go_simp; (try go_bits); (try rw [if_pos (by omega)]); (try with_reducible rfl)
    (try simp only [Act.put, List.setIfInBounds_toArray, List.set_cons_succ, List.set_cons_zero])
    refine wpE_take (i := 5) (oi := { dst := some 12, op := Go.Op.nilCheck (Go.Operand.tmp 11), type := 0, pos := "ram.go:34", after := #[{ on := 4, ground := Go.Ground.data }, { on := 2, ground := Go.Ground.guard }], guard := some (2, false) }) (v := ?_) rfl (by kernel_rfl) (fun _ _ _ h => h) (Or.inl ⟨by rfl, fun W hW => ?_⟩) hS ?_
    rotate_left
    · obtain ⟨k', rfl⟩ := hW; go_simp; (try go_bits); (try rw [if_pos (by omega)]); (try with_reducible rfl)
    (try simp only [Act.put, List.setIfInBounds_toArray, List.set_cons_succ, List.set_cons_zero])
    refine wpE_take (i := 6) (oi := { dst := some 13, op := Go.Op.fieldAddr 107 (Go.Operand.tmp 12) 0, type := 0, pos := "ram.go:34", after := #[{ on := 5, ground := Go.Ground.data }, { on := 2, ground := Go.Ground.guard }], guard := some (2, false) }) (v := ?_) rfl (by kernel_rfl) (fun _ _ _ h => h) (Or.inl ⟨by rfl, fun W hW => ?_⟩) hS ?_
    rotate_left
    · obtain ⟨k', rfl⟩ := hW; go_simp; (try go_bits); (try rw [if_pos (by omega)]); (try with_reducible rfl)
    (try simp only [Act.put, List.setIfInBounds_toArray, List.set_cons_succ, List.set_cons_zero])
    refine wpE_take (i := 7) (oi := { dst := some 14, op := Go.Op.load 29 (Go.Operand.tmp 13), type := 29, pos := "ram.go:34", after := #[{ on := 6, ground := Go.Ground.data }, { on := 2, ground := Go.Ground.guard }], guard := some (2, false) }) (v := ?_) rfl (by kernel_rfl) (fun _ _ _ h => h) (Or.inl ⟨by rfl, fun W hW => ?_⟩) hS ?_
    rotate_left
    · obtain ⟨k', rfl⟩ := hW; go_simp; (try go_bits); (try rw [if_pos (by omega)]); (try with_reducible rfl)
    (try simp only [Act.put, List.setIfInBounds_toArray, List.set_cons_succ, List.set_cons_zero])
    refine wpE_take (i := 8) (oi := { dst := some 15, op := Go.Op.binOp Go.BinOp.lss 29 (Go.Operand.tmp 10) (Go.Operand.tmp 14) 29, type := 4, pos := "ram.go:34", after := #[{ on := 3, ground := Go.Ground.data }, { on := 7, ground := Go.Ground.data }, { on := 2, ground := Go.Ground.guard }], guard := some (2, false) }) (v := .bool false) rfl (by kernel_rfl) (fun _ _ _ h => h) (Or.inl ⟨by rfl, fun W hW => ?_⟩) hS ?_
    · obtain ⟨k', rfl⟩ := hW; go_simp
    (try simp only [Act.put, List.setIfInBounds_toArray, List.set_cons_succ, List.set_cons_zero])
    refine wpE_take (i := 9) (oi := { dst := some 16, op := Go.Op.pick (Go.Operand.tmp 9) (Go.Operand.const (Go.Value.bool true)) (Go.Operand.tmp 15), type := 4, pos := "ram.go:34", after := #[{ on := 2, ground := Go.Ground.data }, { on := 8, ground := Go.Ground.data }], guard := none }) (v := ?_) rfl (by kernel_rfl) (fun _ _ _ h => h) (Or.inl ⟨by rfl, fun W hW => ?_⟩) hS ?_
    rotate_left
    · obtain ⟨k', rfl⟩ := hW; go_simp; (try go_bits); (try rw [if_pos (by omega)]); (try with_reducible rfl)
    (try simp only [Act.put, List.setIfInBounds_toArray, List.set_cons_succ, List.set_cons_zero])
    refine wpE_take (i := 10) (oi := { dst := some 17, op := Go.Op.move (Go.Operand.tmp 16), type := 4, pos := "ram.go:34", after := #[{ on := 9, ground := Go.Ground.data }, { on := 2, ground := Go.Ground.chain }], guard := none }) (v := ?_) rfl (by kernel_rfl) (fun _ _ _ h => h) (Or.inl ⟨by rfl, fun W hW => ?_⟩) hS ?_
    rotate_left
    · obtain ⟨k', rfl⟩ := hW; go_simp; (try go_bits); (try rw [if_pos (by omega)]); (try with_reducible rfl)
    (try simp only [Act.put, List.setIfInBounds_toArray, List.set_cons_succ, List.set_cons_zero])
    refine wpE_take (i := 11) (oi := { dst := some 18, op := Go.Op.move (Go.Operand.tmp 1), type := 29, pos := "ram.go:34", after := #[{ on := 10, ground := Go.Ground.guard }], guard := some (10, false) }) (v := ?_) rfl (by kernel_rfl) (fun _ _ _ h => h) (Or.inl ⟨by rfl, fun W hW => ?_⟩) hS ?_
    rotate_left
    · obtain ⟨k', rfl⟩ := hW; go_simp; (try go_bits); (try rw [if_pos (by omega)]); (try with_reducible rfl)
    (try simp only [Act.put, List.setIfInBounds_toArray, List.set_cons_succ, List.set_cons_zero])
    refine wpE_take (i := 12) (oi := { dst := some 19, op := Go.Op.move (Go.Operand.tmp 0), type := 23, pos := "ram.go:34", after := #[{ on := 10, ground := Go.Ground.guard }], guard := some (10, false) }) (v := ?_) rfl (by kernel_rfl) (fun _ _ _ h => h) (Or.inl ⟨by rfl, fun W hW => ?_⟩) hS ?_
    rotate_left
    · obtain ⟨k', rfl⟩ := hW; go_simp; (try go_bits); (try rw [if_pos (by omega)]); (try with_reducible rfl)
    (try simp only [Act.put, List.setIfInBounds_toArray, List.set_cons_succ, List.set_cons_zero])
    refine wpE_take (i := 13) (oi := { dst := some 20, op := Go.Op.nilCheck (Go.Operand.tmp 19), type := 0, pos := "ram.go:34", after := #[{ on := 12, ground := Go.Ground.data }, { on := 10, ground := Go.Ground.guard }], guard := some (10, false) }) (v := ?_) rfl (by kernel_rfl) (fun _ _ _ h => h) (Or.inl ⟨by rfl, fun W hW => ?_⟩) hS ?_
    rotate_left
    · obtain ⟨k', rfl⟩ := hW; go_simp; (try go_bits); (try rw [if_pos (by omega)]); (try with_reducible rfl)
    (try simp only [Act.put, List.setIfInBounds_toArray, List.set_cons_succ, List.set_cons_zero])
    refine wpE_take (i := 14) (oi := { dst := some 21, op := Go.Op.fieldAddr 107 (Go.Operand.tmp 20) 0, type := 0, pos := "ram.go:34", after := #[{ on := 13, ground := Go.Ground.data }, { on := 10, ground := Go.Ground.guard }], guard := some (10, false) }) (v := ?_) rfl (by kernel_rfl) (fun _ _ _ h => h) (Or.inl ⟨by rfl, fun W hW => ?_⟩) hS ?_
    rotate_left
    · obtain ⟨k', rfl⟩ := hW; go_simp; (try go_bits); (try rw [if_pos (by omega)]); (try with_reducible rfl)
    (try simp only [Act.put, List.setIfInBounds_toArray, List.set_cons_succ, List.set_cons_zero])
    refine wpE_take (i := 15) (oi := { dst := some 22, op := Go.Op.load 29 (Go.Operand.tmp 21), type := 29, pos := "ram.go:34", after := #[{ on := 14, ground := Go.Ground.data }, { on := 10, ground := Go.Ground.guard }], guard := some (10, false) }) (v := ?_) rfl (by kernel_rfl) (fun _ _ _ h => h) (Or.inl ⟨by rfl, fun W hW => ?_⟩) hS ?_
    rotate_left
    · obtain ⟨k', rfl⟩ := hW; go_simp; (try go_bits); (try rw [if_pos (by omega)]); (try with_reducible rfl)
    (try simp only [Act.put, List.setIfInBounds_toArray, List.set_cons_succ, List.set_cons_zero])
    refine wpE_take (i := 16) (oi := { dst := some 23, op := Go.Op.binOp Go.BinOp.sub 29 (Go.Operand.tmp 18) (Go.Operand.tmp 22) 29, type := 29, pos := "ram.go:34", after := #[{ on := 11, ground := Go.Ground.data }, { on := 15, ground := Go.Ground.data }, { on := 10, ground := Go.Ground.guard }], guard := some (10, false) }) (v := .int .u64 (addr - base)) rfl (by kernel_rfl) (fun _ _ _ h => h) (Or.inl ⟨by rfl, fun W hW => ?_⟩) hS ?_
    · obtain ⟨k', rfl⟩ := hW; go_simp
    (try simp only [Act.put, List.setIfInBounds_toArray, List.set_cons_succ, List.set_cons_zero])
    refine wpE_take (i := 17) (oi := { dst := some 24, op := Go.Op.move (Go.Operand.tmp 0), type := 23, pos := "ram.go:34", after := #[{ on := 10, ground := Go.Ground.guard }], guard := some (10, false) }) (v := ?_) rfl (by kernel_rfl) (fun _ _ _ h => h) (Or.inl ⟨by rfl, fun W hW => ?_⟩) hS ?_
    rotate_left
    · obtain ⟨k', rfl⟩ := hW; go_simp; (try go_bits); (try rw [if_pos (by omega)]); (try with_reducible rfl)
    (try simp only [Act.put, List.setIfInBounds_toArray, List.set_cons_succ, List.set_cons_zero])
    refine wpE_only (i := 18) (oi := { dst := some 25, op := Go.Op.call { callee := Go.Callee.value (Go.Operand.func 57), args := #[Go.Operand.tmp 24], argTypes := #[23] }, type := 29, pos := "ram.go:34", after := #[{ on := 17, ground := Go.Ground.data }, { on := 10, ground := Go.Ground.chain }, { on := 10, ground := Go.Ground.guard }], guard := some (10, false) }) rfl (by kernel_rfl) (by rfl) (fun K hK => ?_)
    go_simp
    refine (HS.out 1).mono ?_; rintro e w5 ⟨rfl, rfl⟩
    have hS : ∃ k, w.drewN 1 = w.drewN k := ⟨_, rfl⟩
    refine hK _ _ hS ?_; clear hK K
    (try simp only [Act.put, List.setIfInBounds_toArray, List.set_cons_succ, List.set_cons_zero])
    refine wpE_take (i := 19) (oi := { dst := some 26, op := Go.Op.binOp Go.BinOp.gtr 29 (Go.Operand.tmp 23) (Go.Operand.tmp 25) 29, type := 4, pos := "ram.go:34", after := #[{ on := 16, ground := Go.Ground.data }, { on := 18, ground := Go.Ground.data }, { on := 10, ground := Go.Ground.guard }], guard := some (10, false) }) (v := .bool false) rfl (by kernel_rfl) (fun _ _ _ h => h) (Or.inl ⟨by rfl, fun W hW => ?_⟩) hS ?_
    · obtain ⟨k', rfl⟩ := hW; go_simp
    (try simp only [Act.put, List.setIfInBounds_toArray, List.set_cons_succ, List.set_cons_zero])
    refine wpE_last (oi := { dst := some 27, op := Go.Op.pick (Go.Operand.tmp 17) (Go.Operand.const (Go.Value.bool true)) (Go.Operand.tmp 26), type := 4, pos := "ram.go:34", after := #[{ on := 10, ground := Go.Ground.data }, { on := 19, ground := Go.Ground.data }], guard := none }) rfl (by kernel_rfl) (by kernel_rfl) (by rfl) (fun K hK => ?_)
    go_simp; (try go_bits); refine hK _ _ ?_; clear hK K
    go_wp2_with fail
    have hw2 : IntKind.u64.wrap size = size := IntWalk.u64_in _ (by omega)
    have hw3 : IntKind.u64.wrap ((total : Int) - (addr - base)) = (total : Int) - (addr - base) := IntWalk.u64_in _ (by omega)
    refine wpE_region (S := fun (W' : World) => ∃ k, W' = w.drewN k) (s := 12) (by kernel_rfl) ?_
    have hS : (fun (W' : World) => ∃ k, W' = w.drewN k) _ := ⟨2, rfl⟩
    refine wpE_take (i := 0) (oi := { dst := some 28, op := Go.Op.move (Go.Operand.tmp 2), type := 3, pos := "ram.go:37", after := #[], guard := none }) (v := ?_) rfl (by kernel_rfl) (fun _ _ _ h => h) (Or.inl ⟨by rfl, fun W hW => ?_⟩) hS ?_
    rotate_left
    · obtain ⟨k', rfl⟩ := hW; go_simp; (try go_bits); (try rw [if_pos (by omega)]); (try with_reducible rfl)
    (try simp only [Act.put, List.setIfInBounds_toArray, List.set_cons_succ, List.set_cons_zero])
    refine wpE_take (i := 1) (oi := { dst := some 29, op := Go.Op.convert 3 29 (Go.Operand.tmp 28), type := 29, pos := "ram.go:37", after := #[{ on := 0, ground := Go.Ground.data }], guard := none }) (v := .int .u64 size) rfl (by kernel_rfl) (fun _ _ _ h => h) (Or.inl ⟨by rfl, fun W hW => ?_⟩) hS ?_
    · obtain ⟨k', rfl⟩ := hW; go_simp
    (try simp only [Act.put, List.setIfInBounds_toArray, List.set_cons_succ, List.set_cons_zero])
    refine wpE_take (i := 2) (oi := { dst := some 30, op := Go.Op.move (Go.Operand.tmp 0), type := 23, pos := "ram.go:37", after := #[], guard := none }) (v := ?_) rfl (by kernel_rfl) (fun _ _ _ h => h) (Or.inl ⟨by rfl, fun W hW => ?_⟩) hS ?_
    rotate_left
    · obtain ⟨k', rfl⟩ := hW; go_simp; (try go_bits); (try rw [if_pos (by omega)]); (try with_reducible rfl)
    (try simp only [Act.put, List.setIfInBounds_toArray, List.set_cons_succ, List.set_cons_zero])
    refine wpE_take (i := 4) (oi := { dst := some 32, op := Go.Op.move (Go.Operand.tmp 1), type := 29, pos := "ram.go:37", after := #[], guard := none }) (v := ?_) rfl (by kernel_rfl) (fun _ _ _ h => h) (Or.inl ⟨by rfl, fun W hW => ?_⟩) hS ?_
    rotate_left
    · obtain ⟨k', rfl⟩ := hW; go_simp; (try go_bits); (try rw [if_pos (by omega)]); (try with_reducible rfl)
    (try simp only [Act.put, List.setIfInBounds_toArray, List.set_cons_succ, List.set_cons_zero])
    refine wpE_take (i := 5) (oi := { dst := some 33, op := Go.Op.move (Go.Operand.tmp 0), type := 23, pos := "ram.go:37", after := #[], guard := none }) (v := ?_) rfl (by kernel_rfl) (fun _ _ _ h => h) (Or.inl ⟨by rfl, fun W hW => ?_⟩) hS ?_
    rotate_left
    · obtain ⟨k', rfl⟩ := hW; go_simp; (try go_bits); (try rw [if_pos (by omega)]); (try with_reducible rfl)
    (try simp only [Act.put, List.setIfInBounds_toArray, List.set_cons_succ, List.set_cons_zero])
    refine wpE_take (i := 6) (oi := { dst := some 34, op := Go.Op.nilCheck (Go.Operand.tmp 33), type := 0, pos := "ram.go:37", after := #[{ on := 5, ground := Go.Ground.data }], guard := none }) (v := ?_) rfl (by kernel_rfl) (fun _ _ _ h => h) (Or.inl ⟨by rfl, fun W hW => ?_⟩) hS ?_
    rotate_left
    · obtain ⟨k', rfl⟩ := hW; go_simp; (try go_bits); (try rw [if_pos (by omega)]); (try with_reducible rfl)
    (try simp only [Act.put, List.setIfInBounds_toArray, List.set_cons_succ, List.set_cons_zero])
    refine wpE_take (i := 7) (oi := { dst := some 35, op := Go.Op.fieldAddr 107 (Go.Operand.tmp 34) 0, type := 0, pos := "ram.go:37", after := #[{ on := 6, ground := Go.Ground.data }], guard := none }) (v := ?_) rfl (by kernel_rfl) (fun _ _ _ h => h) (Or.inl ⟨by rfl, fun W hW => ?_⟩) hS ?_
    rotate_left
    · obtain ⟨k', rfl⟩ := hW; go_simp; (try go_bits); (try rw [if_pos (by omega)]); (try with_reducible rfl)
    (try simp only [Act.put, List.setIfInBounds_toArray, List.set_cons_succ, List.set_cons_zero])
    refine wpE_take (i := 8) (oi := { dst := some 36, op := Go.Op.load 29 (Go.Operand.tmp 35), type := 29, pos := "ram.go:37", after := #[{ on := 7, ground := Go.Ground.data }], guard := none }) (v := ?_) rfl (by kernel_rfl) (fun _ _ _ h => h) (Or.inl ⟨by rfl, fun W hW => ?_⟩) hS ?_
    rotate_left
    · obtain ⟨k', rfl⟩ := hW; go_simp; (try go_bits); (try rw [if_pos (by omega)]); (try with_reducible rfl)
    (try simp only [Act.put, List.setIfInBounds_toArray, List.set_cons_succ, List.set_cons_zero])
    refine wpE_take (i := 9) (oi := { dst := some 37, op := Go.Op.binOp Go.BinOp.sub 29 (Go.Operand.tmp 32) (Go.Operand.tmp 36) 29, type := 29, pos := "ram.go:37", after := #[{ on := 4, ground := Go.Ground.data }, { on := 8, ground := Go.Ground.data }], guard := none }) (v := .int .u64 (addr - base)) rfl (by kernel_rfl) (fun _ _ _ h => h) (Or.inl ⟨by rfl, fun W hW => ?_⟩) hS ?_
    · obtain ⟨k', rfl⟩ := hW; go_simp
    (try simp only [Act.put, List.setIfInBounds_toArray, List.set_cons_succ, List.set_cons_zero])
    refine wpE_only (i := 3) (oi := { dst := some 31, op := Go.Op.call { callee := Go.Callee.value (Go.Operand.func 57), args := #[Go.Operand.tmp 30], argTypes := #[23] }, type := 29, pos := "ram.go:37", after := #[{ on := 2, ground := Go.Ground.data }], guard := none }) rfl (by kernel_rfl) (by rfl) (fun K hK => ?_)
    go_simp
    refine (HS.out 2).mono ?_; rintro e w5 ⟨rfl, rfl⟩
    have hS : ∃ k, w.drewN 2 = w.drewN k := ⟨_, rfl⟩
    refine hK _ _ hS ?_; clear hK K
    (try simp only [Act.put, List.setIfInBounds_toArray, List.set_cons_succ, List.set_cons_zero])
    refine wpE_take (i := 10) (oi := { dst := some 38, op := Go.Op.binOp Go.BinOp.sub 29 (Go.Operand.tmp 31) (Go.Operand.tmp 37) 29, type := 29, pos := "ram.go:37", after := #[{ on := 3, ground := Go.Ground.data }, { on := 9, ground := Go.Ground.data }], guard := none }) (v := .int .u64 ((total : Int) - (addr - base))) rfl (by kernel_rfl) (fun _ _ _ h => h) (Or.inl ⟨by rfl, fun W hW => ?_⟩) hS ?_
    · obtain ⟨k', rfl⟩ := hW; go_simp
    (try simp only [Act.put, List.setIfInBounds_toArray, List.set_cons_succ, List.set_cons_zero])
    refine wpE_take (i := 11) (oi := { dst := some 39, op := Go.Op.binOp Go.BinOp.leq 29 (Go.Operand.tmp 29) (Go.Operand.tmp 38) 29, type := 4, pos := "ram.go:37", after := #[{ on := 1, ground := Go.Ground.data }, { on := 10, ground := Go.Ground.data }], guard := none }) (v := ?_) rfl (by kernel_rfl) (fun _ _ _ h => h) (Or.inl ⟨by rfl, fun W hW => ?_⟩) hS ?_
    rotate_left
    · obtain ⟨k', rfl⟩ := hW; go_simp; (try go_bits); (try rw [if_pos (by omega)]); (try with_reducible rfl)
    (try simp only [Act.put, List.setIfInBounds_toArray, List.set_cons_succ, List.set_cons_zero])
    refine wpE_last (oi := { dst := some 6, op := Go.Op.assign (Go.Operand.tmp 39), type := 4, pos := "ram.go:37", after := #[{ on := 11, ground := Go.Ground.data }, { on := 3, ground := Go.Ground.chain }, { on := 0, ground := Go.Ground.phase }, { on := 1, ground := Go.Ground.phase }, { on := 2, ground := Go.Ground.phase }, { on := 3, ground := Go.Ground.phase }, { on := 4, ground := Go.Ground.phase }, { on := 5, ground := Go.Ground.phase }, { on := 6, ground := Go.Ground.phase }, { on := 7, ground := Go.Ground.phase }, { on := 8, ground := Go.Ground.phase }, { on := 9, ground := Go.Ground.phase }, { on := 10, ground := Go.Ground.phase }, { on := 11, ground := Go.Ground.phase }], guard := none }) rfl (by kernel_rfl) (by kernel_rfl) (by rfl) (fun K hK => ?_)
    go_simp; (try go_bits); refine hK _ _ ?_; clear hK K
    go_wp2
    go_ret
    exact ⟨rfl, 2, rfl⟩
  · have hg' : decide ((len * 4096 : Nat) < addr - base) = true := by simp; omega
    have hr : hasR base len addr size = false := by simp [hasR]; omega
    rw [hr]
    generalize len * 4096 = total at *
    go_enter Try.func41, Try.ntmps41
    go_wp2
    refine wpE_region (S := fun (W' : World) => ∃ k, W' = w.drewN k) (s := 20) (by kernel_rfl) ?_
    have hS : (fun (W' : World) => ∃ k, W' = w.drewN k) _ := ⟨1, rfl⟩
    refine wpE_take (i := 0) (oi := { dst := some 7, op := Go.Op.move (Go.Operand.tmp 2), type := 3, pos := "ram.go:34", after := #[], guard := none }) (v := ?_) rfl (by kernel_rfl) (fun _ _ _ h => h) (Or.inl ⟨by rfl, fun W hW => ?_⟩) hS ?_
    rotate_left
    · obtain ⟨k', rfl⟩ := hW; go_simp; (try go_bits); (try rw [if_pos (by omega)]); (try with_reducible rfl)
    (try simp only [Act.put, List.setIfInBounds_toArray, List.set_cons_succ, List.set_cons_zero])
    refine wpE_take (i := 1) (oi := { dst := some 8, op := Go.Op.binOp Go.BinOp.lss 3 (Go.Operand.tmp 7) (Go.Operand.const (Go.Value.int Go.IntKind.i64 0)) 3, type := 4, pos := "ram.go:34", after := #[{ on := 0, ground := Go.Ground.data }], guard := none }) (v := .bool false) rfl (by kernel_rfl) (fun _ _ _ h => h) (Or.inl ⟨by rfl, fun W hW => ?_⟩) hS ?_
    · obtain ⟨k', rfl⟩ := hW; go_simp
    (try simp only [Act.put, List.setIfInBounds_toArray, List.set_cons_succ, List.set_cons_zero])
    refine wpE_take (i := 2) (oi := { dst := some 9, op := Go.Op.move (Go.Operand.tmp 8), type := 4, pos := "ram.go:34", after := #[{ on := 1, ground := Go.Ground.data }], guard := none }) (v := ?_) rfl (by kernel_rfl) (fun _ _ _ h => h) (Or.inl ⟨by rfl, fun W hW => ?_⟩) hS ?_
    rotate_left
    · obtain ⟨k', rfl⟩ := hW; go_simp; (try go_bits); (try rw [if_pos (by omega)]); (try with_reducible rfl)
    (try simp only [Act.put, List.setIfInBounds_toArray, List.set_cons_succ, List.set_cons_zero])
    refine wpE_take (i := 3) (oi := { dst := some 10, op := Go.Op.move (Go.Operand.tmp 1), type := 29, pos := "ram.go:34", after := #[{ on := 2, ground := Go.Ground.guard }], guard := some (2, false) }) (v := ?_) rfl (by kernel_rfl) (fun _ _ _ h => h) (Or.inl ⟨by rfl, fun W hW => ?_⟩) hS ?_
    rotate_left
    · obtain ⟨k', rfl⟩ := hW; go_simp; (try go_bits); (try rw [if_pos (by omega)]); (try with_reducible rfl)
    (try simp only [Act.put, List.setIfInBounds_toArray, List.set_cons_succ, List.set_cons_zero])
    refine wpE_take (i := 4) (oi := { dst := some 11, op := Go.Op.move (Go.Operand.tmp 0), type := 23, pos := "ram.go:34", after := #[{ on := 2, ground := Go.Ground.guard }], guard := some (2, false) }) (v := ?_) rfl (by kernel_rfl) (fun _ _ _ h => h) (Or.inl ⟨by rfl, fun W hW => ?_⟩) hS ?_
    rotate_left
    · obtain ⟨k', rfl⟩ := hW; go_simp; (try go_bits); (try rw [if_pos (by omega)]); (try with_reducible rfl)
    (try simp only [Act.put, List.setIfInBounds_toArray, List.set_cons_succ, List.set_cons_zero])
    refine wpE_take (i := 5) (oi := { dst := some 12, op := Go.Op.nilCheck (Go.Operand.tmp 11), type := 0, pos := "ram.go:34", after := #[{ on := 4, ground := Go.Ground.data }, { on := 2, ground := Go.Ground.guard }], guard := some (2, false) }) (v := ?_) rfl (by kernel_rfl) (fun _ _ _ h => h) (Or.inl ⟨by rfl, fun W hW => ?_⟩) hS ?_
    rotate_left
    · obtain ⟨k', rfl⟩ := hW; go_simp; (try go_bits); (try rw [if_pos (by omega)]); (try with_reducible rfl)
    (try simp only [Act.put, List.setIfInBounds_toArray, List.set_cons_succ, List.set_cons_zero])
    refine wpE_take (i := 6) (oi := { dst := some 13, op := Go.Op.fieldAddr 107 (Go.Operand.tmp 12) 0, type := 0, pos := "ram.go:34", after := #[{ on := 5, ground := Go.Ground.data }, { on := 2, ground := Go.Ground.guard }], guard := some (2, false) }) (v := ?_) rfl (by kernel_rfl) (fun _ _ _ h => h) (Or.inl ⟨by rfl, fun W hW => ?_⟩) hS ?_
    rotate_left
    · obtain ⟨k', rfl⟩ := hW; go_simp; (try go_bits); (try rw [if_pos (by omega)]); (try with_reducible rfl)
    (try simp only [Act.put, List.setIfInBounds_toArray, List.set_cons_succ, List.set_cons_zero])
    refine wpE_take (i := 7) (oi := { dst := some 14, op := Go.Op.load 29 (Go.Operand.tmp 13), type := 29, pos := "ram.go:34", after := #[{ on := 6, ground := Go.Ground.data }, { on := 2, ground := Go.Ground.guard }], guard := some (2, false) }) (v := ?_) rfl (by kernel_rfl) (fun _ _ _ h => h) (Or.inl ⟨by rfl, fun W hW => ?_⟩) hS ?_
    rotate_left
    · obtain ⟨k', rfl⟩ := hW; go_simp; (try go_bits); (try rw [if_pos (by omega)]); (try with_reducible rfl)
    (try simp only [Act.put, List.setIfInBounds_toArray, List.set_cons_succ, List.set_cons_zero])
    refine wpE_take (i := 8) (oi := { dst := some 15, op := Go.Op.binOp Go.BinOp.lss 29 (Go.Operand.tmp 10) (Go.Operand.tmp 14) 29, type := 4, pos := "ram.go:34", after := #[{ on := 3, ground := Go.Ground.data }, { on := 7, ground := Go.Ground.data }, { on := 2, ground := Go.Ground.guard }], guard := some (2, false) }) (v := .bool false) rfl (by kernel_rfl) (fun _ _ _ h => h) (Or.inl ⟨by rfl, fun W hW => ?_⟩) hS ?_
    · obtain ⟨k', rfl⟩ := hW; go_simp
    (try simp only [Act.put, List.setIfInBounds_toArray, List.set_cons_succ, List.set_cons_zero])
    refine wpE_take (i := 9) (oi := { dst := some 16, op := Go.Op.pick (Go.Operand.tmp 9) (Go.Operand.const (Go.Value.bool true)) (Go.Operand.tmp 15), type := 4, pos := "ram.go:34", after := #[{ on := 2, ground := Go.Ground.data }, { on := 8, ground := Go.Ground.data }], guard := none }) (v := ?_) rfl (by kernel_rfl) (fun _ _ _ h => h) (Or.inl ⟨by rfl, fun W hW => ?_⟩) hS ?_
    rotate_left
    · obtain ⟨k', rfl⟩ := hW; go_simp; (try go_bits); (try rw [if_pos (by omega)]); (try with_reducible rfl)
    (try simp only [Act.put, List.setIfInBounds_toArray, List.set_cons_succ, List.set_cons_zero])
    refine wpE_take (i := 10) (oi := { dst := some 17, op := Go.Op.move (Go.Operand.tmp 16), type := 4, pos := "ram.go:34", after := #[{ on := 9, ground := Go.Ground.data }, { on := 2, ground := Go.Ground.chain }], guard := none }) (v := ?_) rfl (by kernel_rfl) (fun _ _ _ h => h) (Or.inl ⟨by rfl, fun W hW => ?_⟩) hS ?_
    rotate_left
    · obtain ⟨k', rfl⟩ := hW; go_simp; (try go_bits); (try rw [if_pos (by omega)]); (try with_reducible rfl)
    (try simp only [Act.put, List.setIfInBounds_toArray, List.set_cons_succ, List.set_cons_zero])
    refine wpE_take (i := 11) (oi := { dst := some 18, op := Go.Op.move (Go.Operand.tmp 1), type := 29, pos := "ram.go:34", after := #[{ on := 10, ground := Go.Ground.guard }], guard := some (10, false) }) (v := ?_) rfl (by kernel_rfl) (fun _ _ _ h => h) (Or.inl ⟨by rfl, fun W hW => ?_⟩) hS ?_
    rotate_left
    · obtain ⟨k', rfl⟩ := hW; go_simp; (try go_bits); (try rw [if_pos (by omega)]); (try with_reducible rfl)
    (try simp only [Act.put, List.setIfInBounds_toArray, List.set_cons_succ, List.set_cons_zero])
    refine wpE_take (i := 12) (oi := { dst := some 19, op := Go.Op.move (Go.Operand.tmp 0), type := 23, pos := "ram.go:34", after := #[{ on := 10, ground := Go.Ground.guard }], guard := some (10, false) }) (v := ?_) rfl (by kernel_rfl) (fun _ _ _ h => h) (Or.inl ⟨by rfl, fun W hW => ?_⟩) hS ?_
    rotate_left
    · obtain ⟨k', rfl⟩ := hW; go_simp; (try go_bits); (try rw [if_pos (by omega)]); (try with_reducible rfl)
    (try simp only [Act.put, List.setIfInBounds_toArray, List.set_cons_succ, List.set_cons_zero])
    refine wpE_take (i := 13) (oi := { dst := some 20, op := Go.Op.nilCheck (Go.Operand.tmp 19), type := 0, pos := "ram.go:34", after := #[{ on := 12, ground := Go.Ground.data }, { on := 10, ground := Go.Ground.guard }], guard := some (10, false) }) (v := ?_) rfl (by kernel_rfl) (fun _ _ _ h => h) (Or.inl ⟨by rfl, fun W hW => ?_⟩) hS ?_
    rotate_left
    · obtain ⟨k', rfl⟩ := hW; go_simp; (try go_bits); (try rw [if_pos (by omega)]); (try with_reducible rfl)
    (try simp only [Act.put, List.setIfInBounds_toArray, List.set_cons_succ, List.set_cons_zero])
    refine wpE_take (i := 14) (oi := { dst := some 21, op := Go.Op.fieldAddr 107 (Go.Operand.tmp 20) 0, type := 0, pos := "ram.go:34", after := #[{ on := 13, ground := Go.Ground.data }, { on := 10, ground := Go.Ground.guard }], guard := some (10, false) }) (v := ?_) rfl (by kernel_rfl) (fun _ _ _ h => h) (Or.inl ⟨by rfl, fun W hW => ?_⟩) hS ?_
    rotate_left
    · obtain ⟨k', rfl⟩ := hW; go_simp; (try go_bits); (try rw [if_pos (by omega)]); (try with_reducible rfl)
    (try simp only [Act.put, List.setIfInBounds_toArray, List.set_cons_succ, List.set_cons_zero])
    refine wpE_take (i := 15) (oi := { dst := some 22, op := Go.Op.load 29 (Go.Operand.tmp 21), type := 29, pos := "ram.go:34", after := #[{ on := 14, ground := Go.Ground.data }, { on := 10, ground := Go.Ground.guard }], guard := some (10, false) }) (v := ?_) rfl (by kernel_rfl) (fun _ _ _ h => h) (Or.inl ⟨by rfl, fun W hW => ?_⟩) hS ?_
    rotate_left
    · obtain ⟨k', rfl⟩ := hW; go_simp; (try go_bits); (try rw [if_pos (by omega)]); (try with_reducible rfl)
    (try simp only [Act.put, List.setIfInBounds_toArray, List.set_cons_succ, List.set_cons_zero])
    refine wpE_take (i := 16) (oi := { dst := some 23, op := Go.Op.binOp Go.BinOp.sub 29 (Go.Operand.tmp 18) (Go.Operand.tmp 22) 29, type := 29, pos := "ram.go:34", after := #[{ on := 11, ground := Go.Ground.data }, { on := 15, ground := Go.Ground.data }, { on := 10, ground := Go.Ground.guard }], guard := some (10, false) }) (v := .int .u64 (addr - base)) rfl (by kernel_rfl) (fun _ _ _ h => h) (Or.inl ⟨by rfl, fun W hW => ?_⟩) hS ?_
    · obtain ⟨k', rfl⟩ := hW; go_simp
    (try simp only [Act.put, List.setIfInBounds_toArray, List.set_cons_succ, List.set_cons_zero])
    refine wpE_take (i := 17) (oi := { dst := some 24, op := Go.Op.move (Go.Operand.tmp 0), type := 23, pos := "ram.go:34", after := #[{ on := 10, ground := Go.Ground.guard }], guard := some (10, false) }) (v := ?_) rfl (by kernel_rfl) (fun _ _ _ h => h) (Or.inl ⟨by rfl, fun W hW => ?_⟩) hS ?_
    rotate_left
    · obtain ⟨k', rfl⟩ := hW; go_simp; (try go_bits); (try rw [if_pos (by omega)]); (try with_reducible rfl)
    (try simp only [Act.put, List.setIfInBounds_toArray, List.set_cons_succ, List.set_cons_zero])
    refine wpE_only (i := 18) (oi := { dst := some 25, op := Go.Op.call { callee := Go.Callee.value (Go.Operand.func 57), args := #[Go.Operand.tmp 24], argTypes := #[23] }, type := 29, pos := "ram.go:34", after := #[{ on := 17, ground := Go.Ground.data }, { on := 10, ground := Go.Ground.chain }, { on := 10, ground := Go.Ground.guard }], guard := some (10, false) }) rfl (by kernel_rfl) (by rfl) (fun K hK => ?_)
    go_simp
    refine (HS.out 1).mono ?_; rintro e w5 ⟨rfl, rfl⟩
    have hS : ∃ k, w.drewN 1 = w.drewN k := ⟨_, rfl⟩
    refine hK _ _ hS ?_; clear hK K
    (try simp only [Act.put, List.setIfInBounds_toArray, List.set_cons_succ, List.set_cons_zero])
    refine wpE_take (i := 19) (oi := { dst := some 26, op := Go.Op.binOp Go.BinOp.gtr 29 (Go.Operand.tmp 23) (Go.Operand.tmp 25) 29, type := 4, pos := "ram.go:34", after := #[{ on := 16, ground := Go.Ground.data }, { on := 18, ground := Go.Ground.data }, { on := 10, ground := Go.Ground.guard }], guard := some (10, false) }) (v := .bool true) rfl (by kernel_rfl) (fun _ _ _ h => h) (Or.inl ⟨by rfl, fun W hW => ?_⟩) hS ?_
    · obtain ⟨k', rfl⟩ := hW; go_simp
    (try simp only [Act.put, List.setIfInBounds_toArray, List.set_cons_succ, List.set_cons_zero])
    refine wpE_last (oi := { dst := some 27, op := Go.Op.pick (Go.Operand.tmp 17) (Go.Operand.const (Go.Value.bool true)) (Go.Operand.tmp 26), type := 4, pos := "ram.go:34", after := #[{ on := 10, ground := Go.Ground.data }, { on := 19, ground := Go.Ground.data }], guard := none }) rfl (by kernel_rfl) (by kernel_rfl) (by rfl) (fun K hK => ?_)
    go_simp; (try go_bits); refine hK _ _ ?_; clear hK K
    go_wp2
    go_ret
    exact ⟨rfl, 1, rfl⟩
theorem ram_get {own : Nat → Nat} {c p q base : Nat} {fs : List (Option Nat)} {m : Nat → Int} {w : World} (h : MemIn ramK own c w p q base fs m) (off : Nat) (ho : off < fs.length * 4096) :
    Calls Try.prog 42 #[.pointer (some ⟨p, 0, none⟩), .int .u64 ((base + off : Nat) : Int)] w fun e w' => e = .returned (.int .u8 (m off)) ∧ w = w' := by
  have hk : off / 4096 < fs.length := Nat.div_lt_of_lt_mul (by omega)
  have hj : off % 4096 < 4096 := Nat.mod_lt _ (by omega)
  have hoff : off / 4096 * 4096 + off % 4096 = off := by omega
  have hw : IntKind.u64.wrap (((base + off : Nat) : Int) - (base : Int)) = (off : Int) := by
    have := h.hb; have := h.hn
    rw [IntWalk.u64_in _ (by omega)]; omega
  have h0 : w.cell? ⟨p, 0, none⟩ = some (.int .u64 (base : Int)) := h.bp.cell 0
  have h1 : w.cell? ⟨p, 1, none⟩ = some (.slice (some ⟨q, 0, none⟩) fs.length fs.length) := h.bp.cell 1
  have hq := h.cellq (off / 4096)
  simp only [List.getElem?_eq_getElem hk, Option.map_some] at hq
  have hlen := h.hn
  rcases hf : fs[off / 4096] with _ | b
  · have hm := h.gone (off / 4096) (by rw [List.getElem?_eq_getElem hk, hf]) _ hj
    rw [hoff] at hm
    rw [hf] at hq
    simp only [ramK, ptrV] at hq
    rw [hm]
    clear h hm hf
    go_enter Try.func42, Try.ntmps42
    go_wp2
    go_ret
    exact ⟨rfl, rfl⟩
  · obtain ⟨ho, cs, hb, hs, hc⟩ := h.there (off / 4096) b (by rw [List.getElem?_eq_getElem hk, hf])
    have hx := (hb.cell _).trans (hc _ hj)
    rw [hoff] at hx
    rw [hf] at hq
    simp only [ramK, ptrV] at hq
    clear h hf hc hb
    go_enter Try.func42, Try.ntmps42
    go_wp2
    go_ret
    exact ⟨rfl, rfl⟩

theorem frame_alloc (w : World) : (Instr.alloc 113 true (.tuple #[])).run Try.prog w = .ok (.pointer (some ⟨w.heap.size, 0, none⟩)) (w.alloc (.cells zeros 113)) := by kernel_rfl
theorem ram_put_in {own : Nat → Nat} {c p q base : Nat} {fs : List (Option Nat)} {m : Nat → Int} {w : World} (h : MemIn ramK own c w p q base fs m) (off : Nat) (ho : off < fs.length * 4096) (v : Int) (hv : 0 ≤ v ∧ v < 256) :
    Calls Try.prog 43 #[.pointer (some ⟨p, 0, none⟩), .int .u64 ((base + off : Nat) : Int), .int .u8 v] w fun e w' => e = .returned (.tuple #[]) ∧
      ∃ own' fs', Step (· = c) own w own' w' ∧ MemIn ramK own' c w' p q base fs' (setB m off v) ∧ fs'.length = fs.length := by
  have hk : off / 4096 < fs.length := Nat.div_lt_of_lt_mul (by omega)
  have hj : off % 4096 < 4096 := Nat.mod_lt _ (by omega)
  have hoff : off / 4096 * 4096 + off % 4096 = off := by omega
  have hw : IntKind.u64.wrap (((base + off : Nat) : Int) - (base : Int)) = (off : Int) := by
    have := h.hb; have := h.hn
    rw [IntWalk.u64_in _ (by omega)]; omega
  have h0 : w.cell? ⟨p, 0, none⟩ = some (.int .u64 (base : Int)) := h.bp.cell 0
  have h1 : w.cell? ⟨p, 1, none⟩ = some (.slice (some ⟨q, 0, none⟩) fs.length fs.length) := h.bp.cell 1
  have hq := h.cellq (off / 4096)
  simp only [List.getElem?_eq_getElem hk, Option.map_some] at hq
  have hlen := h.hn
  have HR := Lib.hid h
  rcases hf : fs[off / 4096] with _ | b
  · rw [hf] at hq
    simp only [ramK, ptrV] at hq
    have hzq := h.bq.frozen (off / 4096)
    have hlt := h.bq.lt
    have hlp := h.bp.lt
    have hnq : q ≠ w.heap.size := by omega
    have hnp : p ≠ w.heap.size := by omega
    have hff := Lib.hid hf
    clear h hf
    go_enter Try.func43, Try.ntmps43
    have hz4 : zeros[off % 4096]? = some (.int .u8 0) := by unfold zeros; rw [List.getElem?_toArray, List.getElem?_replicate, if_pos hj]
    go_wp2_with ((with_reducible show wpList _ _ _ ((⟨some 24, _, _, _, _, _⟩ : Oper) :: _) _ _); refine wpList_alloc rfl _ rfl (frame_alloc _) ?_)
    go_end0
    have := HR.out.put_new (off := off) (by rw [List.getElem?_eq_getElem hk, hff.out]) hv
    exact ⟨rfl, _, _, this.1, this.2, by simp⟩
  · obtain ⟨ho, cs, hb, hs, hc⟩ := h.there (off / 4096) b (by rw [List.getElem?_eq_getElem hk, hf])
    have hx := (hb.cell _).trans (hc _ hj)
    have hz := hb.frozen (off % 4096)
    have hlt := hb.lt
    rw [hoff] at hx
    rw [hf] at hq
    simp only [ramK, ptrV] at hq
    have HB := Lib.hid (And.intro ho (And.intro hb (And.intro hs hc)))
    have hff := Lib.hid hf
    clear h hf hc hb ho hs
    go_enter Try.func43, Try.ntmps43
    go_wp2
    go_end0
    have := HR.out.put_old (off := off) (by rw [List.getElem?_eq_getElem hk, hff.out]) hv
    exact ⟨rfl, _, _, this.1, this.2, rfl⟩
end Go.Proofs.Ytjhibbhinbdciaa
