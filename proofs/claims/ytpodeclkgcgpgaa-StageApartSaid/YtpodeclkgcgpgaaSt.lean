import Derived.Test.YtpodeclkgcgpgaaSg
import Derived.WalkMore
import Derived.ScopeJumps
/- What hardware reads (page.Guest): entries, their bits. -/
namespace Go.Proofs.Ytpodeclkgcgpgaa
set_option linter.unusedVariables false
set_option linter.unusedSimpArgs false
open Go.RowKit
set_option maxRecDepth 100000

theorem low10 (f q b : Nat) (hf : f < 1099511627776) (hq : q < 1024) (hb : b < 1024) : bits .and .u64 ((f * 1024 + q : Nat) : Int) (b : Int) = ((q &&& b : Nat) : Int) := by
  rw [u64_and_nat _ _ (by omega) (by omega)]
  have h1 : ((f * 1024 + q) &&& b) % 2 ^ 10 = q &&& b := by
    rw [Nat.and_mod_two_pow, show (f * 1024 + q) % 2 ^ 10 = q from by omega, show b % 2 ^ 10 = b from by omega]
  have h2 : ((f * 1024 + q) &&& b) ≤ b := Nat.and_le_right
  rw [show ((f * 1024 + q) &&& b) = ((f * 1024 + q) &&& b) % 2 ^ 10 from by omega, h1]
theorem num44 (f q : Nat) (hf : f < 1099511627776) (hq : q < 1024) : bits .and .u64 (((f * 1024 + q : Nat) : Int) / 1024) 17592186044415 = (f : Int) := by
  rw [show (((f * 1024 + q : Nat) : Int) / 1024) = ((f : Nat) : Int) from by omega, show (17592186044415 : Int) = ((17592186044415 : Nat) : Int) from rfl, u64_and_nat _ _ (by omega) (by omega), show (17592186044415 : Nat) = 2 ^ 44 - 1 from rfl, Nat.and_two_pow_sub_one_eq_mod, Nat.mod_eq_of_lt (by omega)]
/-- an entry that names a table -/
structure PtrF (e f : Nat) : Prop where
  lt : e < 18446744073709551616
  a1 : bits .and .u64 (e : Int) 1 = 1
  a6 : bits .and .u64 (e : Int) 6 = 0
  a54 : (e : Int) / 18014398509481984 = 0
  a10 : bits .and .u64 (e : Int) 10 = 0
  nm : bits .and .u64 ((e : Int) / 1024) 17592186044415 = (f : Int)
theorem ptrF (f : Nat) (hf : f < 1099511627776) : PtrF (f * 1024 + 1) f :=
  ⟨by omega, low10 f 1 1 hf (by omega) (by omega), low10 f 1 6 hf (by omega) (by omega), by omega, low10 f 1 10 hf (by omega) (by omega), num44 f 1 hf (by omega)⟩
/-- an entry that names a page -/
structure LeafF (e f : Nat) (p : Int) : Prop where
  lt : e < 18446744073709551616
  a1 : bits .and .u64 (e : Int) 1 = 1
  a6 : bits .and .u64 (e : Int) 6 = bits .and .u64 p 6
  a54 : (e : Int) / 18014398509481984 = 0
  a10 : bits .and .u64 (e : Int) 10 = bits .and .u64 p 10
  a88 : bits .and .u64 (e : Int) 88 = 80 + bits .and .u64 p 8
  a82 : bits .and .u64 (e : Int) 82 = 80 + bits .and .u64 p 2
  a212 : bits .and .u64 (e : Int) 212 = 208 + bits .and .u64 p 4
  a14 : bits .and .u64 (e : Int) 14 = p
  a128 : bits .and .u64 (e : Int) 128 = 128
  nm : bits .and .u64 ((e : Int) / 1024) 17592186044415 = (f : Int)
theorem leafF (f : Nat) (p : Int) (hf : f < 1099511627776) (hp : permOk p) : LeafF (f * 1024 + 209 + p.toNat) f p := by
  have key : ∀ q : Nat, q < 1024 → ∀ b : Nat, b < 1024 → bits .and .u64 ((f * 1024 + 209 + q : Nat) : Int) (b : Int) = (((209 + q) &&& b : Nat) : Int) ∨ 1024 ≤ 209 + q := by
    intro q hq b hb
    by_cases h : 209 + q < 1024
    · left; rw [Nat.add_assoc]; exact low10 f (209 + q) b hf h hb
    · right; omega
  have go : ∀ q : Nat, 209 + q < 1024 → ∀ b : Nat, b < 1024 → bits .and .u64 ((f * 1024 + 209 + q : Nat) : Int) (b : Int) = (((209 + q) &&& b : Nat) : Int) := by
    intro q hq b hb
    rcases key q (by omega) b hb with h | h
    · exact h
    · omega
  rcases hp with rfl | rfl | rfl | rfl | rfl
  · exact ⟨by simp; omega, go 2 (by omega) 1 (by omega), go 2 (by omega) 6 (by omega), by simp; omega, go 2 (by omega) 10 (by omega), go 2 (by omega) 88 (by omega), go 2 (by omega) 82 (by omega), go 2 (by omega) 212 (by omega), go 2 (by omega) 14 (by omega), go 2 (by omega) 128 (by omega), by have := num44 f 211 hf (by omega); simpa [Nat.add_assoc] using this⟩
  · exact ⟨by simp; omega, go 6 (by omega) 1 (by omega), go 6 (by omega) 6 (by omega), by simp; omega, go 6 (by omega) 10 (by omega), go 6 (by omega) 88 (by omega), go 6 (by omega) 82 (by omega), go 6 (by omega) 212 (by omega), go 6 (by omega) 14 (by omega), go 6 (by omega) 128 (by omega), by have := num44 f 215 hf (by omega); simpa [Nat.add_assoc] using this⟩
  · exact ⟨by simp; omega, go 8 (by omega) 1 (by omega), go 8 (by omega) 6 (by omega), by simp; omega, go 8 (by omega) 10 (by omega), go 8 (by omega) 88 (by omega), go 8 (by omega) 82 (by omega), go 8 (by omega) 212 (by omega), go 8 (by omega) 14 (by omega), go 8 (by omega) 128 (by omega), by have := num44 f 217 hf (by omega); simpa [Nat.add_assoc] using this⟩
  · exact ⟨by simp; omega, go 10 (by omega) 1 (by omega), go 10 (by omega) 6 (by omega), by simp; omega, go 10 (by omega) 10 (by omega), go 10 (by omega) 88 (by omega), go 10 (by omega) 82 (by omega), go 10 (by omega) 212 (by omega), go 10 (by omega) 14 (by omega), go 10 (by omega) 128 (by omega), by have := num44 f 219 hf (by omega); simpa [Nat.add_assoc] using this⟩
  · exact ⟨by simp; omega, go 14 (by omega) 1 (by omega), go 14 (by omega) 6 (by omega), by simp; omega, go 14 (by omega) 10 (by omega), go 14 (by omega) 88 (by omega), go 14 (by omega) 82 (by omega), go 14 (by omega) 212 (by omega), go 14 (by omega) 14 (by omega), go 14 (by omega) 128 (by omega), by have := num44 f 223 hf (by omega); simpa [Nat.add_assoc] using this⟩
theorem wrong_no {e : Nat} {q : Int} (lt : e < 18446744073709551616) (a1 : bits .and .u64 (e : Int) 1 = 1) (a6 : bits .and .u64 (e : Int) 6 = q) (hq : (q == 4) = false) (a54 : (e : Int) / 18014398509481984 = 0) (w : World) :
    Calls Try.prog 163 #[.int .u64 (e : Int)] w fun r w' => r = .returned (.bool false) ∧ w = w' := by
  go_enter Try.func163, Try.ntmps163
  go_wp2
  go_ret
  exact ⟨rfl, rfl⟩
theorem wrong_zero (w : World) : Calls Try.prog 163 #[.int .u64 0] w fun r w' => r = .returned (.bool true) ∧ w = w' := by
  go_enter Try.func163, Try.ntmps163
  go_wp2
  go_ret
  exact ⟨rfl, rfl⟩
section
variable {own : Nat → Nat} {c rp n : Nat} {m : Nat → Int} {w : World}
theorem page_entry (rp : Nat) (w : World) :
    Calls Try.prog 115 #[.pointer (some ⟨rp, 0, none⟩)] w fun e w' => ∃ b, e = .returned (.func (.func 148) #[] #[.pointer (some ⟨b, 0, none⟩)]) ∧ Upd (fun _ => False) w w' ∧ w.heap.size ≤ b ∧ Blk w' b 24 #[.pointer (some ⟨rp, 0, none⟩)] := by
  have HB := Lib.hid (Blk.new w 24 #[.pointer (some ⟨rp, 0, none⟩)])
  go_enter Try.func115, Try.ntmps115
  go_wp2
  go_ret
  exact ⟨_, rfl, (Upd.refl _ _).alloc _, Nat.le_refl _, HB.out⟩
theorem page_entry1 (h : MemAt ramK own c w rp 0 n m) (b : Nat) (hB : Blk w b 24 #[.pointer (some ⟨rp, 0, none⟩)]) (t i : Nat) (ht : t < n) (hi : i < 512) :
    Calls Try.prog 148 #[.int .u64 (t : Int), .int .u64 (i : Int), .pointer (some ⟨b, 0, none⟩)] w fun e w' => e = .returned (.tuple #[.int .u64 ((en m t i : Nat) : Int), .int .i64 0]) ∧ Upd (fun _ => False) w w' := by
  have hn := h.sizes.2.2
  have hb : ∀ x, 0 ≤ m x ∧ m x < 256 := h.bd
  have hR : ∀ (W : World), Upd (fun _ => False) w W → Calls Try.prog 29 #[.pointer (some ⟨rp, 0, none⟩), .int .u64 ((t : Int) * 4096 + 8 * (i : Int)), .int .i64 8] W fun e w' => e = .returned (.tuple #[.int .u64 ((en m t i : Nat) : Int), .bool true]) ∧ ∃ k, w' = W.drewN k := by
    intro W hU
    have hR := ram_Read (h.step (own' := own) (C := fun _ => False) ⟨hU, fun _ _ => rfl⟩ (fun h => h)) ((t * 4096 + 8 * i : Nat) : Int) 8 (by omega) (by omega) (by omega) (by omega)
    rw [rd_in (n := n) (m := m) (a := t * 4096 + 8 * i) (by omega), (num_en hb t i).1, show ((t * 4096 + 8 * i : Nat) : Int) = (t : Int) * 4096 + 8 * (i : Int) from by omega] at hR
    exact hR
  have HR := Lib.hid hR
  have c0 := hB.cell 0
  simp only [List.getElem?_toArray, List.getElem?_cons_zero] at c0
  have hlt := hB.lt
  clear hR hb h hB
  generalize en m t i = e at *
  have hc : decide ((4503599627370496 : Int) ≤ (t : Int)) = false := by simp; omega
  go_enter Try.func148, Try.ntmps148
  go_wp2_with fail
  refine (HR.out _ (Upd.refl _ _)).mono ?_; rintro r w2 ⟨rfl, kk, rfl⟩
  have HU := Lib.hid ((Upd.refl (fun _ => False) w).drewN kk)
  clear HR
  go_wp2
  go_ret2
  exact ⟨rfl, HU.out⟩
/-- what is gone through, at block b -/
def SecAt (w : World) (b rb : Nat) (leaf : Int) (lev : Int) (root : Int) : Prop :=
  Blk w b 204 #[.func (.func 148) #[] #[.pointer (some ⟨rb, 0, none⟩)], .int .u64 leaf, .int .i64 lev, .int .u64 root]
theorem SecAt.cells {b rb : Nat} {leaf lev root : Int} (h : SecAt w b rb leaf lev root) : w.cell? ⟨b, 0, none⟩ = some (.func (.func 148) #[] #[.pointer (some ⟨rb, 0, none⟩)]) ∧ w.cell? ⟨b, 1, none⟩ = some (.int .u64 leaf) ∧ w.cell? ⟨b, 2, none⟩ = some (.int .i64 lev) ∧ w.cell? ⟨b, 3, none⟩ = some (.int .u64 root) := ⟨h.cell 0, h.cell 1, h.cell 2, h.cell 3⟩
theorem wk_has {b rb : Nat} {leaf lev root : Int} (h : SecAt w b rb leaf lev root) (k : Int) (r : Bool) (hr : (bits .and .u64 leaf k == k) = r) :
    Calls Try.prog 151 #[.pointer (some ⟨b, 0, none⟩), .int .u64 k] w fun e w' => e = .returned (.bool r) ∧ w = w' := by
  obtain ⟨c0, c1, c2, c3⟩ := h.cells
  clear h
  go_enter Try.func151, Try.ntmps151
  go_wp2
  go_ret
  exact ⟨rfl, rfl⟩
theorem and4095 (x : Nat) (hx : x < 18446744073709551616) : bits .and .u64 (x : Int) 4095 = ((x % 4096 : Nat) : Int) := by
  rw [show (4095 : Int) = ((4095 : Nat) : Int) from rfl, u64_and_nat x 4095 hx (by decide), show (4095 : Nat) = 2 ^ 12 - 1 from rfl, Nat.and_two_pow_sub_one_eq_mod]
theorem wk_place {b rb e f : Nat} {root : Int} (h : SecAt w b rb (e : Int) 0 root) (he : e < 18446744073709551616) (hf : f < 1099511627776) (hnm : bits .and .u64 ((e : Int) / 1024) 17592186044415 = (f : Int)) (a : Nat) (ha : a < 549755813888) :
    Calls Try.prog 152 #[.pointer (some ⟨b, 0, none⟩), .int .u64 (a : Int)] w fun r w' => r = .returned (.int .u64 ((f * 4096 + a % 4096 : Nat) : Int)) ∧ w' = w.drew := by
  obtain ⟨c0, c1, c2, c3⟩ := h.cells
  have hlt := h.lt
  have h4095 := and4095 a (by omega)
  have hor : bits .or .u64 ((f * 4096 : Nat) : Int) ((a % 4096 : Nat) : Int) = ((f * 4096 + a % 4096 : Nat) : Int) := by
    rw [u64_or_nat _ _ (by omega) (by omega), nat_join 12 _ _ (by omega) (by omega)]
  have HF := Lib.hid (And.intro hnm (And.intro h4095 hor))
  clear h hnm h4095 hor
  go_enter Try.func152, Try.ntmps152
  go_wp2_with fail
  refine wpE_region (S := fun (W' : World) => W'.cell? ⟨b, 1, none⟩ = some (.int .u64 (e : Int)) ∧ W'.cell? ⟨b, 2, none⟩ = some (.int .i64 0)) (s := 18) (by kernel_rfl) ?_
  have hS : (fun (W' : World) => W'.cell? ⟨b, 1, none⟩ = some (.int .u64 (e : Int)) ∧ W'.cell? ⟨b, 2, none⟩ = some (.int .i64 0)) _ := ⟨c1, c2⟩
  refine wpE_take (i := 0) (oi := { dst := some 5, op := Go.Op.move (Go.Operand.tmp 0), type := 246, pos := "stages.go:46", after := #[], guard := none }) (v := ?_) rfl (by kernel_rfl) (fun _ _ _ h => h) (Or.inl ⟨by rfl, fun W hW => ?_⟩) hS ?_
  rotate_left
  · (obtain ⟨hw1, hw2⟩ := hW); go_simp; (try go_bits); (try rw [if_pos (by omega)]); (try with_reducible rfl)
  (try simp only [Act.put, List.setIfInBounds_toArray, List.set_cons_succ, List.set_cons_zero])
  refine wpE_take (i := 1) (oi := { dst := some 6, op := Go.Op.nilCheck (Go.Operand.tmp 5), type := 0, pos := "stages.go:46", after := #[{ on := 0, ground := Go.Ground.data }], guard := none }) (v := ?_) rfl (by kernel_rfl) (fun _ _ _ h => h) (Or.inl ⟨by rfl, fun W hW => ?_⟩) hS ?_
  rotate_left
  · (obtain ⟨hw1, hw2⟩ := hW); go_simp; (try go_bits); (try rw [if_pos (by omega)]); (try with_reducible rfl)
  (try simp only [Act.put, List.setIfInBounds_toArray, List.set_cons_succ, List.set_cons_zero])
  refine wpE_take (i := 2) (oi := { dst := some 7, op := Go.Op.fieldAddr 202 (Go.Operand.tmp 6) 1, type := 0, pos := "stages.go:46", after := #[{ on := 1, ground := Go.Ground.data }], guard := none }) (v := ?_) rfl (by kernel_rfl) (fun _ _ _ h => h) (Or.inl ⟨by rfl, fun W hW => ?_⟩) hS ?_
  rotate_left
  · (obtain ⟨hw1, hw2⟩ := hW); go_simp; (try go_bits); (try rw [if_pos (by omega)]); (try with_reducible rfl)
  (try simp only [Act.put, List.setIfInBounds_toArray, List.set_cons_succ, List.set_cons_zero])
  refine wpE_take (i := 3) (oi := { dst := some 8, op := Go.Op.load 30 (Go.Operand.tmp 7), type := 30, pos := "stages.go:46", after := #[{ on := 2, ground := Go.Ground.data }], guard := none }) (v := ?_) rfl (by kernel_rfl) (fun _ _ _ h => h) (Or.inl ⟨by rfl, fun W hW => ?_⟩) hS ?_
  rotate_left
  · (obtain ⟨hw1, hw2⟩ := hW); go_simp; (try go_bits); (try rw [if_pos (by omega)]); (try with_reducible rfl)
  (try simp only [Act.put, List.setIfInBounds_toArray, List.set_cons_succ, List.set_cons_zero])
  refine wpE_take (i := 4) (oi := { dst := some 9, op := Go.Op.binOp Go.BinOp.shr 30 (Go.Operand.tmp 8) (Go.Operand.const (Go.Value.int Go.IntKind.u64 10)) 64, type := 30, pos := "stages.go:46", after := #[{ on := 3, ground := Go.Ground.data }], guard := none }) (v := .int .u64 ((e : Int) / 1024)) rfl (by kernel_rfl) (fun _ _ _ h => h) (Or.inl ⟨by rfl, fun W hW => ?_⟩) hS ?_
  · (obtain ⟨hw1, hw2⟩ := hW); go_simp; (try rw [show (2 : Int) ^ 10 = 1024 from rfl]); (try trivial)
  (try simp only [Act.put, List.setIfInBounds_toArray, List.set_cons_succ, List.set_cons_zero])
  refine wpE_take (i := 5) (oi := { dst := some 10, op := Go.Op.binOp Go.BinOp.and 30 (Go.Operand.tmp 9) (Go.Operand.const (Go.Value.int Go.IntKind.u64 17592186044415)) 30, type := 30, pos := "stages.go:46", after := #[{ on := 4, ground := Go.Ground.data }], guard := none }) (v := .int .u64 (f : Int)) rfl (by kernel_rfl) (fun _ _ _ h => h) (Or.inl ⟨by rfl, fun W hW => ?_⟩) hS ?_
  · (obtain ⟨hw1, hw2⟩ := hW); go_simp; (try rw [HF.out.1]); (try trivial)
  (try simp only [Act.put, List.setIfInBounds_toArray, List.set_cons_succ, List.set_cons_zero])
  refine wpE_take (i := 6) (oi := { dst := some 11, op := Go.Op.binOp Go.BinOp.shl 30 (Go.Operand.tmp 10) (Go.Operand.const (Go.Value.int Go.IntKind.u64 12)) 64, type := 30, pos := "stages.go:46", after := #[{ on := 5, ground := Go.Ground.data }], guard := none }) (v := .int .u64 ((f * 4096 : Nat) : Int)) rfl (by kernel_rfl) (fun _ _ _ h => h) (Or.inl ⟨by rfl, fun W hW => ?_⟩) hS ?_
  · (obtain ⟨hw1, hw2⟩ := hW); go_simp; (try go_bits); (try trivial)
  (try simp only [Act.put, List.setIfInBounds_toArray, List.set_cons_succ, List.set_cons_zero])
  refine wpE_take (i := 7) (oi := { dst := some 12, op := Go.Op.move (Go.Operand.tmp 1), type := 30, pos := "stages.go:46", after := #[], guard := none }) (v := ?_) rfl (by kernel_rfl) (fun _ _ _ h => h) (Or.inl ⟨by rfl, fun W hW => ?_⟩) hS ?_
  rotate_left
  · (obtain ⟨hw1, hw2⟩ := hW); go_simp; (try go_bits); (try rw [if_pos (by omega)]); (try with_reducible rfl)
  (try simp only [Act.put, List.setIfInBounds_toArray, List.set_cons_succ, List.set_cons_zero])
  refine wpE_take (i := 8) (oi := { dst := some 13, op := Go.Op.move (Go.Operand.tmp 0), type := 246, pos := "stages.go:46", after := #[], guard := none }) (v := ?_) rfl (by kernel_rfl) (fun _ _ _ h => h) (Or.inl ⟨by rfl, fun W hW => ?_⟩) hS ?_
  rotate_left
  · (obtain ⟨hw1, hw2⟩ := hW); go_simp; (try go_bits); (try rw [if_pos (by omega)]); (try with_reducible rfl)
  (try simp only [Act.put, List.setIfInBounds_toArray, List.set_cons_succ, List.set_cons_zero])
  refine wpE_take (i := 9) (oi := { dst := some 14, op := Go.Op.nilCheck (Go.Operand.tmp 13), type := 0, pos := "stages.go:46", after := #[{ on := 8, ground := Go.Ground.data }], guard := none }) (v := ?_) rfl (by kernel_rfl) (fun _ _ _ h => h) (Or.inl ⟨by rfl, fun W hW => ?_⟩) hS ?_
  rotate_left
  · (obtain ⟨hw1, hw2⟩ := hW); go_simp; (try go_bits); (try rw [if_pos (by omega)]); (try with_reducible rfl)
  (try simp only [Act.put, List.setIfInBounds_toArray, List.set_cons_succ, List.set_cons_zero])
  refine wpE_take (i := 10) (oi := { dst := some 15, op := Go.Op.fieldAddr 202 (Go.Operand.tmp 14) 2, type := 0, pos := "stages.go:46", after := #[{ on := 9, ground := Go.Ground.data }], guard := none }) (v := ?_) rfl (by kernel_rfl) (fun _ _ _ h => h) (Or.inl ⟨by rfl, fun W hW => ?_⟩) hS ?_
  rotate_left
  · (obtain ⟨hw1, hw2⟩ := hW); go_simp; (try go_bits); (try rw [if_pos (by omega)]); (try with_reducible rfl)
  (try simp only [Act.put, List.setIfInBounds_toArray, List.set_cons_succ, List.set_cons_zero])
  refine wpE_take (i := 11) (oi := { dst := some 16, op := Go.Op.load 3 (Go.Operand.tmp 15), type := 3, pos := "stages.go:46", after := #[{ on := 10, ground := Go.Ground.data }], guard := none }) (v := ?_) rfl (by kernel_rfl) (fun _ _ _ h => h) (Or.inl ⟨by rfl, fun W hW => ?_⟩) hS ?_
  rotate_left
  · (obtain ⟨hw1, hw2⟩ := hW); go_simp; (try go_bits); (try rw [if_pos (by omega)]); (try with_reducible rfl)
  (try simp only [Act.put, List.setIfInBounds_toArray, List.set_cons_succ, List.set_cons_zero])
  refine wpE_take (i := 12) (oi := { dst := some 17, op := Go.Op.binOp Go.BinOp.mul 3 (Go.Operand.const (Go.Value.int Go.IntKind.i64 9)) (Go.Operand.tmp 16) 3, type := 3, pos := "stages.go:46", after := #[{ on := 11, ground := Go.Ground.data }], guard := none }) (v := ?_) rfl (by kernel_rfl) (fun _ _ _ h => h) (Or.inl ⟨by rfl, fun W hW => ?_⟩) hS ?_
  rotate_left
  · (obtain ⟨hw1, hw2⟩ := hW); go_simp; (try go_bits); (try rw [if_pos (by omega)]); (try with_reducible rfl)
  (try simp only [Act.put, List.setIfInBounds_toArray, List.set_cons_succ, List.set_cons_zero])
  refine wpE_take (i := 13) (oi := { dst := some 18, op := Go.Op.binOp Go.BinOp.add 3 (Go.Operand.const (Go.Value.int Go.IntKind.i64 12)) (Go.Operand.tmp 17) 3, type := 3, pos := "stages.go:46", after := #[{ on := 12, ground := Go.Ground.data }], guard := none }) (v := ?_) rfl (by kernel_rfl) (fun _ _ _ h => h) (Or.inl ⟨by rfl, fun W hW => ?_⟩) hS ?_
  rotate_left
  · (obtain ⟨hw1, hw2⟩ := hW); go_simp; (try go_bits); (try rw [if_pos (by omega)]); (try with_reducible rfl)
  (try simp only [Act.put, List.setIfInBounds_toArray, List.set_cons_succ, List.set_cons_zero])
  refine wpE_take (i := 14) (oi := { dst := some 19, op := Go.Op.binOp Go.BinOp.shl 30 (Go.Operand.const (Go.Value.int Go.IntKind.u64 1)) (Go.Operand.tmp 18) 3, type := 30, pos := "stages.go:46", after := #[{ on := 13, ground := Go.Ground.data }], guard := none }) (v := ?_) rfl (by kernel_rfl) (fun _ _ _ h => h) (Or.inl ⟨by rfl, fun W hW => ?_⟩) hS ?_
  rotate_left
  · (obtain ⟨hw1, hw2⟩ := hW); go_simp; (try go_bits); (try rw [if_pos (by omega)]); (try with_reducible rfl)
  (try simp only [Act.put, List.setIfInBounds_toArray, List.set_cons_succ, List.set_cons_zero])
  refine wpE_take (i := 15) (oi := { dst := some 20, op := Go.Op.binOp Go.BinOp.sub 30 (Go.Operand.tmp 19) (Go.Operand.const (Go.Value.int Go.IntKind.u64 1)) 30, type := 30, pos := "stages.go:46", after := #[{ on := 14, ground := Go.Ground.data }], guard := none }) (v := ?_) rfl (by kernel_rfl) (fun _ _ _ h => h) (Or.inl ⟨by rfl, fun W hW => ?_⟩) hS ?_
  rotate_left
  · (obtain ⟨hw1, hw2⟩ := hW); go_simp; (try go_bits); (try rw [if_pos (by omega)]); (try with_reducible rfl)
  (try simp only [Act.put, List.setIfInBounds_toArray, List.set_cons_succ, List.set_cons_zero])
  refine wpE_take (i := 16) (oi := { dst := some 21, op := Go.Op.binOp Go.BinOp.and 30 (Go.Operand.tmp 12) (Go.Operand.tmp 20) 30, type := 30, pos := "stages.go:46", after := #[{ on := 7, ground := Go.Ground.data }, { on := 15, ground := Go.Ground.data }], guard := none }) (v := .int .u64 ((a % 4096 : Nat) : Int)) rfl (by kernel_rfl) (fun _ _ _ h => h) (Or.inl ⟨by rfl, fun W hW => ?_⟩) hS ?_
  · (obtain ⟨hw1, hw2⟩ := hW); go_simp; (try rw [HF.out.2.1]); (try trivial)
  (try simp only [Act.put, List.setIfInBounds_toArray, List.set_cons_succ, List.set_cons_zero])
  refine wpE_take (i := 17) (oi := { dst := some 22, op := Go.Op.binOp Go.BinOp.or 30 (Go.Operand.tmp 11) (Go.Operand.tmp 21) 30, type := 30, pos := "stages.go:46", after := #[{ on := 6, ground := Go.Ground.data }, { on := 16, ground := Go.Ground.data }], guard := none }) (v := .int .u64 ((f * 4096 + a % 4096 : Nat) : Int)) rfl (by kernel_rfl) (fun _ _ _ h => h) (Or.inl ⟨by rfl, fun W hW => ?_⟩) hS ?_
  · (obtain ⟨hw1, hw2⟩ := hW); go_simp; (try rw [show ((f : Int) * 4096) = ((f * 4096 : Nat) : Int) from by omega, show ((a : Int) % 4096) = ((a % 4096 : Nat) : Int) from by omega]); (try rw [HF.out.2.2]); (try omega)
  (try simp only [Act.put, List.setIfInBounds_toArray, List.set_cons_succ, List.set_cons_zero])
  refine wpE_last (oi := { dst := some 4, op := Go.Op.assign (Go.Operand.tmp 22), type := 30, pos := "stages.go:46", after := #[{ on := 17, ground := Go.Ground.data }, { on := 0, ground := Go.Ground.phase }, { on := 1, ground := Go.Ground.phase }, { on := 2, ground := Go.Ground.phase }, { on := 3, ground := Go.Ground.phase }, { on := 4, ground := Go.Ground.phase }, { on := 5, ground := Go.Ground.phase }, { on := 6, ground := Go.Ground.phase }, { on := 7, ground := Go.Ground.phase }, { on := 8, ground := Go.Ground.phase }, { on := 9, ground := Go.Ground.phase }, { on := 10, ground := Go.Ground.phase }, { on := 11, ground := Go.Ground.phase }, { on := 12, ground := Go.Ground.phase }, { on := 13, ground := Go.Ground.phase }, { on := 14, ground := Go.Ground.phase }, { on := 15, ground := Go.Ground.phase }, { on := 16, ground := Go.Ground.phase }, { on := 17, ground := Go.Ground.phase }], guard := none }) rfl (by kernel_rfl) (by kernel_rfl) (by rfl) (fun K hK => ?_)
  go_simp; (try go_bits); refine hK _ _ ?_; clear hK K
  go_wp2
  go_ret
  exact ⟨rfl, rfl⟩
/-- what an access asks -/
def wantB (a : Int) : Int := if a = 1 then 88 else if a = 2 then 82 else 212
theorem wk_lets {b rb : Nat} {leaf lev root : Int} (h : SecAt w b rb leaf lev root) (a : Int) (ha : a = 1 ∨ a = 2 ∨ a = 3) (r : Bool) (hr : (bits .and .u64 leaf (wantB a) == wantB a) = r) :
    Calls Try.prog 150 #[.pointer (some ⟨b, 0, none⟩), .int .i64 a] w fun e w' => e = .returned (.bool r) ∧ w = w' := by
  have HH := Lib.hid (wk_has h (wantB a) r hr)
  clear h hr
  rcases ha with rfl | rfl | rfl
  all_goals
    go_enter Try.func150, Try.ntmps150
    go_wp2_with fail
    refine HH.out.mono ?_; rintro e w1 ⟨rfl, rfl⟩
    go_wp2
    go_ret
    exact ⟨rfl, rfl⟩
end
end Go.Proofs.Ytpodeclkgcgpgaa
