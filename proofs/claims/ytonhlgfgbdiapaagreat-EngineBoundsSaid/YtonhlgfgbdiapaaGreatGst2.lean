import Derived.Test.YtonhlgfgbdiapaaGreatGst
/- What hardware reads: place, lets, Go, page.Guest, whatever stands in memory. -/
namespace Go.Proofs.YtonhlgfgbdiapaaGreat
set_option linter.unusedVariables false
set_option linter.unusedSimpArgs false
open Go.RowKit
set_option maxRecDepth 100000

/-- the place that a leaf tells; the rights; does it let an access -/
def plcE (e lev a : Nat) : Nat := nxtE e * 4096 + a % 2 ^ (12 + 9 * lev)
def permE (e : Nat) : Nat := if e &&& 128 = 128 then e &&& 14 else e &&& 10
def wantN (acc : Nat) : Nat := if acc = 1 then 88 else if acc = 2 then 82 else 212
def letE (e acc : Nat) : Bool := e &&& wantN acc == wantN acc
/-- what page.Guest tells: place, rights, fault -/
def guestP (b0 n : Nat) (m : Nat → Int) (root a acc : Nat) : Nat × Nat × Int :=
  if root = 0 then (a, 14, 0) else if 549755813888 ≤ a then (0, 0, 2) else
  if (dnG b0 n m a 2 root).1 = 3 then (0, 0, 3) else if (dnG b0 n m a 2 root).1 = 0 ∧ letE (dnG b0 n m a 2 root).2.1 acc = true then (plcE (dnG b0 n m a 2 root).2.1 (dnG b0 n m a 2 root).2.2 a, permE (dnG b0 n m a 2 root).2.1, 0) else (0, 0, 2)
/-- a leaf that down tells -/
structure LfOk (D : Int × Nat × Nat) : Prop where
  f : D.1 = 0 ∨ D.1 = 1 ∨ D.1 = 3
  lv : D.2.2 ≤ 2
  e : D.2.1 < 18446744073709551616
  al : D.1 = 0 → D.2.1 / 1024 % 2 ^ (9 * D.2.2) = 0
theorem dnG_ok {m : Nat → Int} (hm : ∀ x, 0 ≤ m x ∧ m x < 256) (b0 n a : Nat) (t : Nat) : LfOk (dnG b0 n m a 2 t) := by
  have h0 : ∀ t, LfOk (dnG b0 n m a 0 t) := by
    intro t
    unfold dnG
    split
    · exact ⟨.inr (.inr rfl), by decide, by decide, fun h => by cases h⟩
    · split
      · exact ⟨.inr (.inl rfl), by decide, by decide, fun h => by cases h⟩
      · split
        · exact ⟨.inl rfl, (by show 0 ≤ 2; decide), ent_lt hm _ _, fun _ => Nat.mod_one _⟩
        · exact ⟨.inr (.inl rfl), by decide, by decide, fun h => by cases h⟩
  have h1 : ∀ t, LfOk (dnG b0 n m a 1 t) := by
    intro t
    unfold dnG
    split
    · exact ⟨.inr (.inr rfl), by decide, by decide, fun h => by cases h⟩
    · split
      · exact ⟨.inr (.inl rfl), by decide, by decide, fun h => by cases h⟩
      · split
        · split
          · exact ⟨.inr (.inl rfl), by decide, by decide, fun h => by cases h⟩
          · rename_i hmis
            exact ⟨.inl rfl, (by show 1 ≤ 2; decide), ent_lt hm _ _, fun _ => by simpa [misE] using hmis⟩
        · exact h0 _
  unfold dnG
  split
  · exact ⟨.inr (.inr rfl), by decide, by decide, fun h => by cases h⟩
  · split
    · exact ⟨.inr (.inl rfl), by decide, by decide, fun h => by cases h⟩
    · split
      · split
        · exact ⟨.inr (.inl rfl), by decide, by decide, fun h => by cases h⟩
        · rename_i hmis
          exact ⟨.inl rfl, (by show 2 ≤ 2; decide), ent_lt hm _ _, fun _ => by simpa [misE] using hmis⟩
      · exact h1 _
theorem MemIn.recolG {K : MK} {own own' : Nat → Nat} {c p q base : Nat} {fs : List (Option Nat)} {m : Nat → Int} {w : World} (h : MemIn K own c w p q base fs m) (hg : ∀ b, own b = c → own' b = c) : MemIn K own' c w p q base fs m :=
  { h with op := hg _ h.op, oq := hg _ h.oq, there := fun k b e => ⟨hg _ (h.there k b e).1, (h.there k b e).2⟩ }
theorem MemAt.recolG {K : MK} {own own' : Nat → Nat} {c p base n : Nat} {m : Nat → Int} {w : World} (h : MemAt K own c w p base n m) (hg : ∀ b, own b = c → own' b = c) : MemAt K own' c w p base n m := by
  obtain ⟨q, fs, h, e⟩ := h
  exact ⟨q, fs, h.recolG hg, e⟩
theorem and_eqN (e k : Nat) (he : e < 18446744073709551616) (hk : k < 18446744073709551616) : (bits .and .u64 (e : Int) (k : Int) == (k : Int)) = (e &&& k == k) := by
  rw [u64_and_nat _ _ he hk, Bool.eq_iff_iff, beq_iff_eq, beq_iff_eq]; omega
section
variable {own : Nat → Nat} {c rp n b0 : Nat} {m : Nat → Int} {w : World}
theorem wk_hasG {b rb e : Nat} {lev root : Int} (h : GecAt w b rb (e : Int) lev root) (he : e < 18446744073709551616) (k : Nat) (hk : k < 18446744073709551616) :
    Calls Tryz.prog 120 #[.pointer (some ⟨b, 0, none⟩), .int .u64 (k : Int)] w fun r w' => r = .returned (.bool (e &&& k == k)) ∧ w = w' := by
  obtain ⟨c0, c1, c2, c3⟩ := h.cells
  have hq := and_eqN e k he hk
  obtain ⟨q, hqq⟩ : ∃ q, (e &&& k == k) = q := ⟨_, rfl⟩
  rw [hqq] at hq ⊢
  clear h hqq
  go_enter Tryz.func120, Tryz.ntmps120
  go_wp2
  go_ret
  exact ⟨rfl, rfl⟩
theorem wk_letsG {b rb e : Nat} {lev root : Int} (h : GecAt w b rb (e : Int) lev root) (he : e < 18446744073709551616) (acc : Nat) (ha : acc = 1 ∨ acc = 2 ∨ acc = 3) :
    Calls Tryz.prog 119 #[.pointer (some ⟨b, 0, none⟩), .int .i64 (acc : Int)] w fun r w' => r = .returned (.bool (letE e acc)) ∧ w = w' := by
  have hH := wk_hasG h he (wantN acc) (by unfold wantN; split <;> (try split) <;> decide)
  rw [show (e &&& wantN acc == wantN acc) = letE e acc from rfl] at hH
  obtain ⟨q, hq⟩ : ∃ q, letE e acc = q := ⟨_, rfl⟩
  rw [hq] at hH ⊢
  clear h hq
  rcases ha with rfl | rfl | rfl
  · rw [show ((wantN 1 : Nat) : Int) = 88 from rfl] at hH
    have HH := Lib.hid hH
    clear hH
    rw [show ((1 : Nat) : Int) = 1 from rfl]
    go_enter Tryz.func119, Tryz.ntmps119
    go_wp2_with fail
    refine HH.out.mono ?_; rintro e w1 ⟨rfl, rfl⟩
    go_wp2
    go_ret
    exact ⟨rfl, rfl⟩
  · rw [show ((wantN 2 : Nat) : Int) = 82 from rfl] at hH
    have HH := Lib.hid hH
    clear hH
    rw [show ((2 : Nat) : Int) = 2 from rfl]
    go_enter Tryz.func119, Tryz.ntmps119
    go_wp2_with fail
    refine HH.out.mono ?_; rintro e w1 ⟨rfl, rfl⟩
    go_wp2
    go_ret
    exact ⟨rfl, rfl⟩
  · rw [show ((wantN 3 : Nat) : Int) = 212 from rfl] at hH
    have HH := Lib.hid hH
    clear hH
    rw [show ((3 : Nat) : Int) = 3 from rfl]
    go_enter Tryz.func119, Tryz.ntmps119
    go_wp2_with fail
    refine HH.out.mono ?_; rintro e w1 ⟨rfl, rfl⟩
    go_wp2
    go_ret
    exact ⟨rfl, rfl⟩
theorem place_or (e lev a : Nat) (hl : lev ≤ 2) (hal : e / 1024 % 2 ^ (9 * lev) = 0) : bits .or .u64 ((nxtE e * 4096 : Nat) : Int) ((a % 2 ^ (12 + 9 * lev) : Nat) : Int) = ((plcE e lev a : Nat) : Int) := by
  have hn := nxt_lt e
  have hp : 2 ^ (12 + 9 * lev) ≤ 2 ^ 30 := Nat.pow_le_pow_right (by decide) (by omega)
  have hm : a % 2 ^ (12 + 9 * lev) < 2 ^ (12 + 9 * lev) := Nat.mod_lt _ (Nat.two_pow_pos _)
  have hz : nxtE e * 4096 % 2 ^ (12 + 9 * lev) = 0 := by
    have h1 : nxtE e % 2 ^ (9 * lev) = 0 := by
      unfold nxtE
      rw [show (17592186044416 : Nat) = 2 ^ (9 * lev) * 2 ^ (44 - 9 * lev) from by rw [← Nat.pow_add, show 9 * lev + (44 - 9 * lev) = 44 from by omega], Nat.mod_mul_right_mod]; exact hal
    obtain ⟨k, hk⟩ := Nat.dvd_of_mod_eq_zero h1
    rw [hk, Nat.pow_add, show (2 : Nat) ^ 12 = 4096 from rfl, show 2 ^ (9 * lev) * k * 4096 = (4096 * 2 ^ (9 * lev)) * k from by rw [Nat.mul_comm (2 ^ (9 * lev) * k) 4096, Nat.mul_assoc]]
    exact Nat.mul_mod_right _ _
  rw [u64_or_nat _ _ (by omega) (by omega), nat_join (12 + 9 * lev) _ _ hz hm]
  rfl
set_option maxHeartbeats 2000000 in
theorem wk_placeG {b rb e lev : Nat} {root : Int} (h : GecAt w b rb (e : Int) (lev : Int) root) (he : e < 18446744073709551616) (hl : lev ≤ 2) (hal : e / 1024 % 2 ^ (9 * lev) = 0) (a : Nat) (ha : a < 549755813888) :
    Calls Tryz.prog 121 #[.pointer (some ⟨b, 0, none⟩), .int .u64 (a : Int)] w fun r w' => r = .returned (.int .u64 ((plcE e lev a : Nat) : Int)) ∧ w' = w.drew := by
  obtain ⟨c0, c1, c2, c3⟩ := h.cells
  have hlt := h.lt
  have hnx := nxt_g e he
  have hnl := nxt_lt e
  have hor := place_or e lev a hl hal
  have hmd := mod_and a (12 + 9 * lev) (by omega) (by omega)
  have hml : a % 2 ^ (12 + 9 * lev) ≤ a := Nat.mod_le _ _
  obtain ⟨P, hP⟩ : ∃ P, plcE e lev a = P := ⟨_, rfl⟩
  obtain ⟨f, hf⟩ : ∃ f, nxtE e = f := ⟨_, rfl⟩
  obtain ⟨r, hr⟩ : ∃ r, a % 2 ^ (12 + 9 * lev) = r := ⟨_, rfl⟩
  rw [hP] at hor ⊢
  rw [hf] at hor hnx hnl
  rw [hr] at hor hmd hml
  have HF := Lib.hid (And.intro hnx (And.intro hmd hor))
  clear h hnx hmd hor hP hf hr hal
  rcases (show lev = 0 ∨ lev = 1 ∨ lev = 2 by omega) with rfl | rfl | rfl
  · have hk : (((2 : Nat) ^ (12 + 9 * 0) - 1 : Nat) : Int) = 4095 := rfl
    have hF2 := HF.out.2.1
    rw [hk] at hF2
    have HF2 := Lib.hid hF2
    rw [show ((0 : Nat) : Int) = 0 from rfl] at c2
    clear hk hF2
    go_enter Tryz.func121, Tryz.ntmps121
    go_wp2_with fail
    refine wpE_region (S := fun (W' : World) => W'.cell? ⟨b, 1, none⟩ = some (.int .u64 (e : Int)) ∧ W'.cell? ⟨b, 2, none⟩ = some (.int .i64 0)) (s := 18) (by kernel_rfl) ?_
    have hS : (fun (W' : World) => W'.cell? ⟨b, 1, none⟩ = some (.int .u64 (e : Int)) ∧ W'.cell? ⟨b, 2, none⟩ = some (.int .i64 0)) _ := ⟨c1, c2⟩
    refine wpE_take (i := 0) (oi := { dst := some 5, op := Go.Op.move (Go.Operand.tmp 0), type := 208, pos := "stages.go:46", after := #[], guard := none }) (v := ?_) rfl (by kernel_rfl) (fun _ _ _ h => h) (Or.inl ⟨by rfl, fun W hW => ?_⟩) hS ?_
    rotate_left
    · (obtain ⟨hw1, hw2⟩ := hW); go_simp; (try go_bits); (try rw [if_pos (by omega)]); (try with_reducible rfl)
    (try simp only [Act.put, List.setIfInBounds_toArray, List.set_cons_succ, List.set_cons_zero])
    refine wpE_take (i := 1) (oi := { dst := some 6, op := Go.Op.nilCheck (Go.Operand.tmp 5), type := 0, pos := "stages.go:46", after := #[{ on := 0, ground := Go.Ground.data }], guard := none }) (v := ?_) rfl (by kernel_rfl) (fun _ _ _ h => h) (Or.inl ⟨by rfl, fun W hW => ?_⟩) hS ?_
    rotate_left
    · (obtain ⟨hw1, hw2⟩ := hW); go_simp; (try go_bits); (try rw [if_pos (by omega)]); (try with_reducible rfl)
    (try simp only [Act.put, List.setIfInBounds_toArray, List.set_cons_succ, List.set_cons_zero])
    refine wpE_take (i := 2) (oi := { dst := some 7, op := Go.Op.fieldAddr 185 (Go.Operand.tmp 6) 1, type := 0, pos := "stages.go:46", after := #[{ on := 1, ground := Go.Ground.data }], guard := none }) (v := ?_) rfl (by kernel_rfl) (fun _ _ _ h => h) (Or.inl ⟨by rfl, fun W hW => ?_⟩) hS ?_
    rotate_left
    · (obtain ⟨hw1, hw2⟩ := hW); go_simp; (try go_bits); (try rw [if_pos (by omega)]); (try with_reducible rfl)
    (try simp only [Act.put, List.setIfInBounds_toArray, List.set_cons_succ, List.set_cons_zero])
    refine wpE_take (i := 3) (oi := { dst := some 8, op := Go.Op.load 23 (Go.Operand.tmp 7), type := 23, pos := "stages.go:46", after := #[{ on := 2, ground := Go.Ground.data }], guard := none }) (v := ?_) rfl (by kernel_rfl) (fun _ _ _ h => h) (Or.inl ⟨by rfl, fun W hW => ?_⟩) hS ?_
    rotate_left
    · (obtain ⟨hw1, hw2⟩ := hW); go_simp; (try go_bits); (try rw [if_pos (by omega)]); (try with_reducible rfl)
    (try simp only [Act.put, List.setIfInBounds_toArray, List.set_cons_succ, List.set_cons_zero])
    refine wpE_take (i := 4) (oi := { dst := some 9, op := Go.Op.binOp Go.BinOp.shr 23 (Go.Operand.tmp 8) (Go.Operand.const (Go.Value.int Go.IntKind.u64 10)) 27, type := 23, pos := "stages.go:46", after := #[{ on := 3, ground := Go.Ground.data }], guard := none }) (v := .int .u64 ((e : Int) / 1024)) rfl (by kernel_rfl) (fun _ _ _ h => h) (Or.inl ⟨by rfl, fun W hW => ?_⟩) hS ?_
    · (obtain ⟨hw1, hw2⟩ := hW); go_simp; (try rw [show (2 : Int) ^ 10 = 1024 from rfl]); (try trivial)
    (try simp only [Act.put, List.setIfInBounds_toArray, List.set_cons_succ, List.set_cons_zero])
    refine wpE_take (i := 5) (oi := { dst := some 10, op := Go.Op.binOp Go.BinOp.and 23 (Go.Operand.tmp 9) (Go.Operand.const (Go.Value.int Go.IntKind.u64 17592186044415)) 23, type := 23, pos := "stages.go:46", after := #[{ on := 4, ground := Go.Ground.data }], guard := none }) (v := .int .u64 (f : Int)) rfl (by kernel_rfl) (fun _ _ _ h => h) (Or.inl ⟨by rfl, fun W hW => ?_⟩) hS ?_
    · (obtain ⟨hw1, hw2⟩ := hW); go_simp; (try rw [HF.out.1]); (try trivial)
    (try simp only [Act.put, List.setIfInBounds_toArray, List.set_cons_succ, List.set_cons_zero])
    refine wpE_take (i := 6) (oi := { dst := some 11, op := Go.Op.binOp Go.BinOp.shl 23 (Go.Operand.tmp 10) (Go.Operand.const (Go.Value.int Go.IntKind.u64 12)) 27, type := 23, pos := "stages.go:46", after := #[{ on := 5, ground := Go.Ground.data }], guard := none }) (v := .int .u64 ((f * 4096 : Nat) : Int)) rfl (by kernel_rfl) (fun _ _ _ h => h) (Or.inl ⟨by rfl, fun W hW => ?_⟩) hS ?_
    · (obtain ⟨hw1, hw2⟩ := hW); go_simp; (try go_bits); (try trivial)
    (try simp only [Act.put, List.setIfInBounds_toArray, List.set_cons_succ, List.set_cons_zero])
    refine wpE_take (i := 7) (oi := { dst := some 12, op := Go.Op.move (Go.Operand.tmp 1), type := 23, pos := "stages.go:46", after := #[], guard := none }) (v := ?_) rfl (by kernel_rfl) (fun _ _ _ h => h) (Or.inl ⟨by rfl, fun W hW => ?_⟩) hS ?_
    rotate_left
    · (obtain ⟨hw1, hw2⟩ := hW); go_simp; (try go_bits); (try rw [if_pos (by omega)]); (try with_reducible rfl)
    (try simp only [Act.put, List.setIfInBounds_toArray, List.set_cons_succ, List.set_cons_zero])
    refine wpE_take (i := 8) (oi := { dst := some 13, op := Go.Op.move (Go.Operand.tmp 0), type := 208, pos := "stages.go:46", after := #[], guard := none }) (v := ?_) rfl (by kernel_rfl) (fun _ _ _ h => h) (Or.inl ⟨by rfl, fun W hW => ?_⟩) hS ?_
    rotate_left
    · (obtain ⟨hw1, hw2⟩ := hW); go_simp; (try go_bits); (try rw [if_pos (by omega)]); (try with_reducible rfl)
    (try simp only [Act.put, List.setIfInBounds_toArray, List.set_cons_succ, List.set_cons_zero])
    refine wpE_take (i := 9) (oi := { dst := some 14, op := Go.Op.nilCheck (Go.Operand.tmp 13), type := 0, pos := "stages.go:46", after := #[{ on := 8, ground := Go.Ground.data }], guard := none }) (v := ?_) rfl (by kernel_rfl) (fun _ _ _ h => h) (Or.inl ⟨by rfl, fun W hW => ?_⟩) hS ?_
    rotate_left
    · (obtain ⟨hw1, hw2⟩ := hW); go_simp; (try go_bits); (try rw [if_pos (by omega)]); (try with_reducible rfl)
    (try simp only [Act.put, List.setIfInBounds_toArray, List.set_cons_succ, List.set_cons_zero])
    refine wpE_take (i := 10) (oi := { dst := some 15, op := Go.Op.fieldAddr 185 (Go.Operand.tmp 14) 2, type := 0, pos := "stages.go:46", after := #[{ on := 9, ground := Go.Ground.data }], guard := none }) (v := ?_) rfl (by kernel_rfl) (fun _ _ _ h => h) (Or.inl ⟨by rfl, fun W hW => ?_⟩) hS ?_
    rotate_left
    · (obtain ⟨hw1, hw2⟩ := hW); go_simp; (try go_bits); (try rw [if_pos (by omega)]); (try with_reducible rfl)
    (try simp only [Act.put, List.setIfInBounds_toArray, List.set_cons_succ, List.set_cons_zero])
    refine wpE_take (i := 11) (oi := { dst := some 16, op := Go.Op.load 3 (Go.Operand.tmp 15), type := 3, pos := "stages.go:46", after := #[{ on := 10, ground := Go.Ground.data }], guard := none }) (v := ?_) rfl (by kernel_rfl) (fun _ _ _ h => h) (Or.inl ⟨by rfl, fun W hW => ?_⟩) hS ?_
    rotate_left
    · (obtain ⟨hw1, hw2⟩ := hW); go_simp; (try go_bits); (try rw [if_pos (by omega)]); (try with_reducible rfl)
    (try simp only [Act.put, List.setIfInBounds_toArray, List.set_cons_succ, List.set_cons_zero])
    refine wpE_take (i := 12) (oi := { dst := some 17, op := Go.Op.binOp Go.BinOp.mul 3 (Go.Operand.const (Go.Value.int Go.IntKind.i64 9)) (Go.Operand.tmp 16) 3, type := 3, pos := "stages.go:46", after := #[{ on := 11, ground := Go.Ground.data }], guard := none }) (v := ?_) rfl (by kernel_rfl) (fun _ _ _ h => h) (Or.inl ⟨by rfl, fun W hW => ?_⟩) hS ?_
    rotate_left
    · (obtain ⟨hw1, hw2⟩ := hW); go_simp; (try go_bits); (try rw [if_pos (by omega)]); (try with_reducible rfl)
    (try simp only [Act.put, List.setIfInBounds_toArray, List.set_cons_succ, List.set_cons_zero])
    refine wpE_take (i := 13) (oi := { dst := some 18, op := Go.Op.binOp Go.BinOp.add 3 (Go.Operand.const (Go.Value.int Go.IntKind.i64 12)) (Go.Operand.tmp 17) 3, type := 3, pos := "stages.go:46", after := #[{ on := 12, ground := Go.Ground.data }], guard := none }) (v := ?_) rfl (by kernel_rfl) (fun _ _ _ h => h) (Or.inl ⟨by rfl, fun W hW => ?_⟩) hS ?_
    rotate_left
    · (obtain ⟨hw1, hw2⟩ := hW); go_simp; (try go_bits); (try rw [if_pos (by omega)]); (try with_reducible rfl)
    (try simp only [Act.put, List.setIfInBounds_toArray, List.set_cons_succ, List.set_cons_zero])
    refine wpE_take (i := 14) (oi := { dst := some 19, op := Go.Op.binOp Go.BinOp.shl 23 (Go.Operand.const (Go.Value.int Go.IntKind.u64 1)) (Go.Operand.tmp 18) 3, type := 23, pos := "stages.go:46", after := #[{ on := 13, ground := Go.Ground.data }], guard := none }) (v := ?_) rfl (by kernel_rfl) (fun _ _ _ h => h) (Or.inl ⟨by rfl, fun W hW => ?_⟩) hS ?_
    rotate_left
    · (obtain ⟨hw1, hw2⟩ := hW); go_simp; (try go_bits); (try rw [if_pos (by omega)]); (try with_reducible rfl)
    (try simp only [Act.put, List.setIfInBounds_toArray, List.set_cons_succ, List.set_cons_zero])
    refine wpE_take (i := 15) (oi := { dst := some 20, op := Go.Op.binOp Go.BinOp.sub 23 (Go.Operand.tmp 19) (Go.Operand.const (Go.Value.int Go.IntKind.u64 1)) 23, type := 23, pos := "stages.go:46", after := #[{ on := 14, ground := Go.Ground.data }], guard := none }) (v := ?_) rfl (by kernel_rfl) (fun _ _ _ h => h) (Or.inl ⟨by rfl, fun W hW => ?_⟩) hS ?_
    rotate_left
    · (obtain ⟨hw1, hw2⟩ := hW); go_simp; (try go_bits); (try rw [if_pos (by omega)]); (try with_reducible rfl)
    (try simp only [Act.put, List.setIfInBounds_toArray, List.set_cons_succ, List.set_cons_zero])
    refine wpE_take (i := 16) (oi := { dst := some 21, op := Go.Op.binOp Go.BinOp.and 23 (Go.Operand.tmp 12) (Go.Operand.tmp 20) 23, type := 23, pos := "stages.go:46", after := #[{ on := 7, ground := Go.Ground.data }, { on := 15, ground := Go.Ground.data }], guard := none }) (v := .int .u64 (r : Int)) rfl (by kernel_rfl) (fun _ _ _ h => h) (Or.inl ⟨by rfl, fun W hW => ?_⟩) hS ?_
    · (obtain ⟨hw1, hw2⟩ := hW); go_simp; (try rw [HF2.out]); (try trivial)
    (try simp only [Act.put, List.setIfInBounds_toArray, List.set_cons_succ, List.set_cons_zero])
    refine wpE_take (i := 17) (oi := { dst := some 22, op := Go.Op.binOp Go.BinOp.or 23 (Go.Operand.tmp 11) (Go.Operand.tmp 21) 23, type := 23, pos := "stages.go:46", after := #[{ on := 6, ground := Go.Ground.data }, { on := 16, ground := Go.Ground.data }], guard := none }) (v := .int .u64 (P : Int)) rfl (by kernel_rfl) (fun _ _ _ h => h) (Or.inl ⟨by rfl, fun W hW => ?_⟩) hS ?_
    · (obtain ⟨hw1, hw2⟩ := hW); go_simp; (try rw [show ((f : Int) * 4096) = ((f * 4096 : Nat) : Int) from by omega]); (try rw [HF.out.2.2]); (try omega)
    (try simp only [Act.put, List.setIfInBounds_toArray, List.set_cons_succ, List.set_cons_zero])
    refine wpE_last (oi := { dst := some 4, op := Go.Op.assign (Go.Operand.tmp 22), type := 23, pos := "stages.go:46", after := #[{ on := 17, ground := Go.Ground.data }, { on := 0, ground := Go.Ground.phase }, { on := 1, ground := Go.Ground.phase }, { on := 2, ground := Go.Ground.phase }, { on := 3, ground := Go.Ground.phase }, { on := 4, ground := Go.Ground.phase }, { on := 5, ground := Go.Ground.phase }, { on := 6, ground := Go.Ground.phase }, { on := 7, ground := Go.Ground.phase }, { on := 8, ground := Go.Ground.phase }, { on := 9, ground := Go.Ground.phase }, { on := 10, ground := Go.Ground.phase }, { on := 11, ground := Go.Ground.phase }, { on := 12, ground := Go.Ground.phase }, { on := 13, ground := Go.Ground.phase }, { on := 14, ground := Go.Ground.phase }, { on := 15, ground := Go.Ground.phase }, { on := 16, ground := Go.Ground.phase }, { on := 17, ground := Go.Ground.phase }], guard := none }) rfl (by kernel_rfl) (by kernel_rfl) (by rfl) (fun K hK => ?_)
    go_simp; (try go_bits); refine hK _ _ ?_; clear hK K
    go_wp2
    go_ret
    exact ⟨rfl, rfl⟩
  · have hk : (((2 : Nat) ^ (12 + 9 * 1) - 1 : Nat) : Int) = 2097151 := rfl
    have hF2 := HF.out.2.1
    rw [hk] at hF2
    have HF2 := Lib.hid hF2
    rw [show ((1 : Nat) : Int) = 1 from rfl] at c2
    clear hk hF2
    go_enter Tryz.func121, Tryz.ntmps121
    go_wp2_with fail
    refine wpE_region (S := fun (W' : World) => W'.cell? ⟨b, 1, none⟩ = some (.int .u64 (e : Int)) ∧ W'.cell? ⟨b, 2, none⟩ = some (.int .i64 1)) (s := 18) (by kernel_rfl) ?_
    have hS : (fun (W' : World) => W'.cell? ⟨b, 1, none⟩ = some (.int .u64 (e : Int)) ∧ W'.cell? ⟨b, 2, none⟩ = some (.int .i64 1)) _ := ⟨c1, c2⟩
    refine wpE_take (i := 0) (oi := { dst := some 5, op := Go.Op.move (Go.Operand.tmp 0), type := 208, pos := "stages.go:46", after := #[], guard := none }) (v := ?_) rfl (by kernel_rfl) (fun _ _ _ h => h) (Or.inl ⟨by rfl, fun W hW => ?_⟩) hS ?_
    rotate_left
    · (obtain ⟨hw1, hw2⟩ := hW); go_simp; (try go_bits); (try rw [if_pos (by omega)]); (try with_reducible rfl)
    (try simp only [Act.put, List.setIfInBounds_toArray, List.set_cons_succ, List.set_cons_zero])
    refine wpE_take (i := 1) (oi := { dst := some 6, op := Go.Op.nilCheck (Go.Operand.tmp 5), type := 0, pos := "stages.go:46", after := #[{ on := 0, ground := Go.Ground.data }], guard := none }) (v := ?_) rfl (by kernel_rfl) (fun _ _ _ h => h) (Or.inl ⟨by rfl, fun W hW => ?_⟩) hS ?_
    rotate_left
    · (obtain ⟨hw1, hw2⟩ := hW); go_simp; (try go_bits); (try rw [if_pos (by omega)]); (try with_reducible rfl)
    (try simp only [Act.put, List.setIfInBounds_toArray, List.set_cons_succ, List.set_cons_zero])
    refine wpE_take (i := 2) (oi := { dst := some 7, op := Go.Op.fieldAddr 185 (Go.Operand.tmp 6) 1, type := 0, pos := "stages.go:46", after := #[{ on := 1, ground := Go.Ground.data }], guard := none }) (v := ?_) rfl (by kernel_rfl) (fun _ _ _ h => h) (Or.inl ⟨by rfl, fun W hW => ?_⟩) hS ?_
    rotate_left
    · (obtain ⟨hw1, hw2⟩ := hW); go_simp; (try go_bits); (try rw [if_pos (by omega)]); (try with_reducible rfl)
    (try simp only [Act.put, List.setIfInBounds_toArray, List.set_cons_succ, List.set_cons_zero])
    refine wpE_take (i := 3) (oi := { dst := some 8, op := Go.Op.load 23 (Go.Operand.tmp 7), type := 23, pos := "stages.go:46", after := #[{ on := 2, ground := Go.Ground.data }], guard := none }) (v := ?_) rfl (by kernel_rfl) (fun _ _ _ h => h) (Or.inl ⟨by rfl, fun W hW => ?_⟩) hS ?_
    rotate_left
    · (obtain ⟨hw1, hw2⟩ := hW); go_simp; (try go_bits); (try rw [if_pos (by omega)]); (try with_reducible rfl)
    (try simp only [Act.put, List.setIfInBounds_toArray, List.set_cons_succ, List.set_cons_zero])
    refine wpE_take (i := 4) (oi := { dst := some 9, op := Go.Op.binOp Go.BinOp.shr 23 (Go.Operand.tmp 8) (Go.Operand.const (Go.Value.int Go.IntKind.u64 10)) 27, type := 23, pos := "stages.go:46", after := #[{ on := 3, ground := Go.Ground.data }], guard := none }) (v := .int .u64 ((e : Int) / 1024)) rfl (by kernel_rfl) (fun _ _ _ h => h) (Or.inl ⟨by rfl, fun W hW => ?_⟩) hS ?_
    · (obtain ⟨hw1, hw2⟩ := hW); go_simp; (try rw [show (2 : Int) ^ 10 = 1024 from rfl]); (try trivial)
    (try simp only [Act.put, List.setIfInBounds_toArray, List.set_cons_succ, List.set_cons_zero])
    refine wpE_take (i := 5) (oi := { dst := some 10, op := Go.Op.binOp Go.BinOp.and 23 (Go.Operand.tmp 9) (Go.Operand.const (Go.Value.int Go.IntKind.u64 17592186044415)) 23, type := 23, pos := "stages.go:46", after := #[{ on := 4, ground := Go.Ground.data }], guard := none }) (v := .int .u64 (f : Int)) rfl (by kernel_rfl) (fun _ _ _ h => h) (Or.inl ⟨by rfl, fun W hW => ?_⟩) hS ?_
    · (obtain ⟨hw1, hw2⟩ := hW); go_simp; (try rw [HF.out.1]); (try trivial)
    (try simp only [Act.put, List.setIfInBounds_toArray, List.set_cons_succ, List.set_cons_zero])
    refine wpE_take (i := 6) (oi := { dst := some 11, op := Go.Op.binOp Go.BinOp.shl 23 (Go.Operand.tmp 10) (Go.Operand.const (Go.Value.int Go.IntKind.u64 12)) 27, type := 23, pos := "stages.go:46", after := #[{ on := 5, ground := Go.Ground.data }], guard := none }) (v := .int .u64 ((f * 4096 : Nat) : Int)) rfl (by kernel_rfl) (fun _ _ _ h => h) (Or.inl ⟨by rfl, fun W hW => ?_⟩) hS ?_
    · (obtain ⟨hw1, hw2⟩ := hW); go_simp; (try go_bits); (try trivial)
    (try simp only [Act.put, List.setIfInBounds_toArray, List.set_cons_succ, List.set_cons_zero])
    refine wpE_take (i := 7) (oi := { dst := some 12, op := Go.Op.move (Go.Operand.tmp 1), type := 23, pos := "stages.go:46", after := #[], guard := none }) (v := ?_) rfl (by kernel_rfl) (fun _ _ _ h => h) (Or.inl ⟨by rfl, fun W hW => ?_⟩) hS ?_
    rotate_left
    · (obtain ⟨hw1, hw2⟩ := hW); go_simp; (try go_bits); (try rw [if_pos (by omega)]); (try with_reducible rfl)
    (try simp only [Act.put, List.setIfInBounds_toArray, List.set_cons_succ, List.set_cons_zero])
    refine wpE_take (i := 8) (oi := { dst := some 13, op := Go.Op.move (Go.Operand.tmp 0), type := 208, pos := "stages.go:46", after := #[], guard := none }) (v := ?_) rfl (by kernel_rfl) (fun _ _ _ h => h) (Or.inl ⟨by rfl, fun W hW => ?_⟩) hS ?_
    rotate_left
    · (obtain ⟨hw1, hw2⟩ := hW); go_simp; (try go_bits); (try rw [if_pos (by omega)]); (try with_reducible rfl)
    (try simp only [Act.put, List.setIfInBounds_toArray, List.set_cons_succ, List.set_cons_zero])
    refine wpE_take (i := 9) (oi := { dst := some 14, op := Go.Op.nilCheck (Go.Operand.tmp 13), type := 0, pos := "stages.go:46", after := #[{ on := 8, ground := Go.Ground.data }], guard := none }) (v := ?_) rfl (by kernel_rfl) (fun _ _ _ h => h) (Or.inl ⟨by rfl, fun W hW => ?_⟩) hS ?_
    rotate_left
    · (obtain ⟨hw1, hw2⟩ := hW); go_simp; (try go_bits); (try rw [if_pos (by omega)]); (try with_reducible rfl)
    (try simp only [Act.put, List.setIfInBounds_toArray, List.set_cons_succ, List.set_cons_zero])
    refine wpE_take (i := 10) (oi := { dst := some 15, op := Go.Op.fieldAddr 185 (Go.Operand.tmp 14) 2, type := 0, pos := "stages.go:46", after := #[{ on := 9, ground := Go.Ground.data }], guard := none }) (v := ?_) rfl (by kernel_rfl) (fun _ _ _ h => h) (Or.inl ⟨by rfl, fun W hW => ?_⟩) hS ?_
    rotate_left
    · (obtain ⟨hw1, hw2⟩ := hW); go_simp; (try go_bits); (try rw [if_pos (by omega)]); (try with_reducible rfl)
    (try simp only [Act.put, List.setIfInBounds_toArray, List.set_cons_succ, List.set_cons_zero])
    refine wpE_take (i := 11) (oi := { dst := some 16, op := Go.Op.load 3 (Go.Operand.tmp 15), type := 3, pos := "stages.go:46", after := #[{ on := 10, ground := Go.Ground.data }], guard := none }) (v := ?_) rfl (by kernel_rfl) (fun _ _ _ h => h) (Or.inl ⟨by rfl, fun W hW => ?_⟩) hS ?_
    rotate_left
    · (obtain ⟨hw1, hw2⟩ := hW); go_simp; (try go_bits); (try rw [if_pos (by omega)]); (try with_reducible rfl)
    (try simp only [Act.put, List.setIfInBounds_toArray, List.set_cons_succ, List.set_cons_zero])
    refine wpE_take (i := 12) (oi := { dst := some 17, op := Go.Op.binOp Go.BinOp.mul 3 (Go.Operand.const (Go.Value.int Go.IntKind.i64 9)) (Go.Operand.tmp 16) 3, type := 3, pos := "stages.go:46", after := #[{ on := 11, ground := Go.Ground.data }], guard := none }) (v := ?_) rfl (by kernel_rfl) (fun _ _ _ h => h) (Or.inl ⟨by rfl, fun W hW => ?_⟩) hS ?_
    rotate_left
    · (obtain ⟨hw1, hw2⟩ := hW); go_simp; (try go_bits); (try rw [if_pos (by omega)]); (try with_reducible rfl)
    (try simp only [Act.put, List.setIfInBounds_toArray, List.set_cons_succ, List.set_cons_zero])
    refine wpE_take (i := 13) (oi := { dst := some 18, op := Go.Op.binOp Go.BinOp.add 3 (Go.Operand.const (Go.Value.int Go.IntKind.i64 12)) (Go.Operand.tmp 17) 3, type := 3, pos := "stages.go:46", after := #[{ on := 12, ground := Go.Ground.data }], guard := none }) (v := ?_) rfl (by kernel_rfl) (fun _ _ _ h => h) (Or.inl ⟨by rfl, fun W hW => ?_⟩) hS ?_
    rotate_left
    · (obtain ⟨hw1, hw2⟩ := hW); go_simp; (try go_bits); (try rw [if_pos (by omega)]); (try with_reducible rfl)
    (try simp only [Act.put, List.setIfInBounds_toArray, List.set_cons_succ, List.set_cons_zero])
    refine wpE_take (i := 14) (oi := { dst := some 19, op := Go.Op.binOp Go.BinOp.shl 23 (Go.Operand.const (Go.Value.int Go.IntKind.u64 1)) (Go.Operand.tmp 18) 3, type := 23, pos := "stages.go:46", after := #[{ on := 13, ground := Go.Ground.data }], guard := none }) (v := ?_) rfl (by kernel_rfl) (fun _ _ _ h => h) (Or.inl ⟨by rfl, fun W hW => ?_⟩) hS ?_
    rotate_left
    · (obtain ⟨hw1, hw2⟩ := hW); go_simp; (try go_bits); (try rw [if_pos (by omega)]); (try with_reducible rfl)
    (try simp only [Act.put, List.setIfInBounds_toArray, List.set_cons_succ, List.set_cons_zero])
    refine wpE_take (i := 15) (oi := { dst := some 20, op := Go.Op.binOp Go.BinOp.sub 23 (Go.Operand.tmp 19) (Go.Operand.const (Go.Value.int Go.IntKind.u64 1)) 23, type := 23, pos := "stages.go:46", after := #[{ on := 14, ground := Go.Ground.data }], guard := none }) (v := ?_) rfl (by kernel_rfl) (fun _ _ _ h => h) (Or.inl ⟨by rfl, fun W hW => ?_⟩) hS ?_
    rotate_left
    · (obtain ⟨hw1, hw2⟩ := hW); go_simp; (try go_bits); (try rw [if_pos (by omega)]); (try with_reducible rfl)
    (try simp only [Act.put, List.setIfInBounds_toArray, List.set_cons_succ, List.set_cons_zero])
    refine wpE_take (i := 16) (oi := { dst := some 21, op := Go.Op.binOp Go.BinOp.and 23 (Go.Operand.tmp 12) (Go.Operand.tmp 20) 23, type := 23, pos := "stages.go:46", after := #[{ on := 7, ground := Go.Ground.data }, { on := 15, ground := Go.Ground.data }], guard := none }) (v := .int .u64 (r : Int)) rfl (by kernel_rfl) (fun _ _ _ h => h) (Or.inl ⟨by rfl, fun W hW => ?_⟩) hS ?_
    · (obtain ⟨hw1, hw2⟩ := hW); go_simp; (try rw [HF2.out]); (try trivial)
    (try simp only [Act.put, List.setIfInBounds_toArray, List.set_cons_succ, List.set_cons_zero])
    refine wpE_take (i := 17) (oi := { dst := some 22, op := Go.Op.binOp Go.BinOp.or 23 (Go.Operand.tmp 11) (Go.Operand.tmp 21) 23, type := 23, pos := "stages.go:46", after := #[{ on := 6, ground := Go.Ground.data }, { on := 16, ground := Go.Ground.data }], guard := none }) (v := .int .u64 (P : Int)) rfl (by kernel_rfl) (fun _ _ _ h => h) (Or.inl ⟨by rfl, fun W hW => ?_⟩) hS ?_
    · (obtain ⟨hw1, hw2⟩ := hW); go_simp; (try rw [show ((f : Int) * 4096) = ((f * 4096 : Nat) : Int) from by omega]); (try rw [HF.out.2.2]); (try omega)
    (try simp only [Act.put, List.setIfInBounds_toArray, List.set_cons_succ, List.set_cons_zero])
    refine wpE_last (oi := { dst := some 4, op := Go.Op.assign (Go.Operand.tmp 22), type := 23, pos := "stages.go:46", after := #[{ on := 17, ground := Go.Ground.data }, { on := 0, ground := Go.Ground.phase }, { on := 1, ground := Go.Ground.phase }, { on := 2, ground := Go.Ground.phase }, { on := 3, ground := Go.Ground.phase }, { on := 4, ground := Go.Ground.phase }, { on := 5, ground := Go.Ground.phase }, { on := 6, ground := Go.Ground.phase }, { on := 7, ground := Go.Ground.phase }, { on := 8, ground := Go.Ground.phase }, { on := 9, ground := Go.Ground.phase }, { on := 10, ground := Go.Ground.phase }, { on := 11, ground := Go.Ground.phase }, { on := 12, ground := Go.Ground.phase }, { on := 13, ground := Go.Ground.phase }, { on := 14, ground := Go.Ground.phase }, { on := 15, ground := Go.Ground.phase }, { on := 16, ground := Go.Ground.phase }, { on := 17, ground := Go.Ground.phase }], guard := none }) rfl (by kernel_rfl) (by kernel_rfl) (by rfl) (fun K hK => ?_)
    go_simp; (try go_bits); refine hK _ _ ?_; clear hK K
    go_wp2
    go_ret
    exact ⟨rfl, rfl⟩
  · have hk : (((2 : Nat) ^ (12 + 9 * 2) - 1 : Nat) : Int) = 1073741823 := rfl
    have hF2 := HF.out.2.1
    rw [hk] at hF2
    have HF2 := Lib.hid hF2
    rw [show ((2 : Nat) : Int) = 2 from rfl] at c2
    clear hk hF2
    go_enter Tryz.func121, Tryz.ntmps121
    go_wp2_with fail
    refine wpE_region (S := fun (W' : World) => W'.cell? ⟨b, 1, none⟩ = some (.int .u64 (e : Int)) ∧ W'.cell? ⟨b, 2, none⟩ = some (.int .i64 2)) (s := 18) (by kernel_rfl) ?_
    have hS : (fun (W' : World) => W'.cell? ⟨b, 1, none⟩ = some (.int .u64 (e : Int)) ∧ W'.cell? ⟨b, 2, none⟩ = some (.int .i64 2)) _ := ⟨c1, c2⟩
    refine wpE_take (i := 0) (oi := { dst := some 5, op := Go.Op.move (Go.Operand.tmp 0), type := 208, pos := "stages.go:46", after := #[], guard := none }) (v := ?_) rfl (by kernel_rfl) (fun _ _ _ h => h) (Or.inl ⟨by rfl, fun W hW => ?_⟩) hS ?_
    rotate_left
    · (obtain ⟨hw1, hw2⟩ := hW); go_simp; (try go_bits); (try rw [if_pos (by omega)]); (try with_reducible rfl)
    (try simp only [Act.put, List.setIfInBounds_toArray, List.set_cons_succ, List.set_cons_zero])
    refine wpE_take (i := 1) (oi := { dst := some 6, op := Go.Op.nilCheck (Go.Operand.tmp 5), type := 0, pos := "stages.go:46", after := #[{ on := 0, ground := Go.Ground.data }], guard := none }) (v := ?_) rfl (by kernel_rfl) (fun _ _ _ h => h) (Or.inl ⟨by rfl, fun W hW => ?_⟩) hS ?_
    rotate_left
    · (obtain ⟨hw1, hw2⟩ := hW); go_simp; (try go_bits); (try rw [if_pos (by omega)]); (try with_reducible rfl)
    (try simp only [Act.put, List.setIfInBounds_toArray, List.set_cons_succ, List.set_cons_zero])
    refine wpE_take (i := 2) (oi := { dst := some 7, op := Go.Op.fieldAddr 185 (Go.Operand.tmp 6) 1, type := 0, pos := "stages.go:46", after := #[{ on := 1, ground := Go.Ground.data }], guard := none }) (v := ?_) rfl (by kernel_rfl) (fun _ _ _ h => h) (Or.inl ⟨by rfl, fun W hW => ?_⟩) hS ?_
    rotate_left
    · (obtain ⟨hw1, hw2⟩ := hW); go_simp; (try go_bits); (try rw [if_pos (by omega)]); (try with_reducible rfl)
    (try simp only [Act.put, List.setIfInBounds_toArray, List.set_cons_succ, List.set_cons_zero])
    refine wpE_take (i := 3) (oi := { dst := some 8, op := Go.Op.load 23 (Go.Operand.tmp 7), type := 23, pos := "stages.go:46", after := #[{ on := 2, ground := Go.Ground.data }], guard := none }) (v := ?_) rfl (by kernel_rfl) (fun _ _ _ h => h) (Or.inl ⟨by rfl, fun W hW => ?_⟩) hS ?_
    rotate_left
    · (obtain ⟨hw1, hw2⟩ := hW); go_simp; (try go_bits); (try rw [if_pos (by omega)]); (try with_reducible rfl)
    (try simp only [Act.put, List.setIfInBounds_toArray, List.set_cons_succ, List.set_cons_zero])
    refine wpE_take (i := 4) (oi := { dst := some 9, op := Go.Op.binOp Go.BinOp.shr 23 (Go.Operand.tmp 8) (Go.Operand.const (Go.Value.int Go.IntKind.u64 10)) 27, type := 23, pos := "stages.go:46", after := #[{ on := 3, ground := Go.Ground.data }], guard := none }) (v := .int .u64 ((e : Int) / 1024)) rfl (by kernel_rfl) (fun _ _ _ h => h) (Or.inl ⟨by rfl, fun W hW => ?_⟩) hS ?_
    · (obtain ⟨hw1, hw2⟩ := hW); go_simp; (try rw [show (2 : Int) ^ 10 = 1024 from rfl]); (try trivial)
    (try simp only [Act.put, List.setIfInBounds_toArray, List.set_cons_succ, List.set_cons_zero])
    refine wpE_take (i := 5) (oi := { dst := some 10, op := Go.Op.binOp Go.BinOp.and 23 (Go.Operand.tmp 9) (Go.Operand.const (Go.Value.int Go.IntKind.u64 17592186044415)) 23, type := 23, pos := "stages.go:46", after := #[{ on := 4, ground := Go.Ground.data }], guard := none }) (v := .int .u64 (f : Int)) rfl (by kernel_rfl) (fun _ _ _ h => h) (Or.inl ⟨by rfl, fun W hW => ?_⟩) hS ?_
    · (obtain ⟨hw1, hw2⟩ := hW); go_simp; (try rw [HF.out.1]); (try trivial)
    (try simp only [Act.put, List.setIfInBounds_toArray, List.set_cons_succ, List.set_cons_zero])
    refine wpE_take (i := 6) (oi := { dst := some 11, op := Go.Op.binOp Go.BinOp.shl 23 (Go.Operand.tmp 10) (Go.Operand.const (Go.Value.int Go.IntKind.u64 12)) 27, type := 23, pos := "stages.go:46", after := #[{ on := 5, ground := Go.Ground.data }], guard := none }) (v := .int .u64 ((f * 4096 : Nat) : Int)) rfl (by kernel_rfl) (fun _ _ _ h => h) (Or.inl ⟨by rfl, fun W hW => ?_⟩) hS ?_
    · (obtain ⟨hw1, hw2⟩ := hW); go_simp; (try go_bits); (try trivial)
    (try simp only [Act.put, List.setIfInBounds_toArray, List.set_cons_succ, List.set_cons_zero])
    refine wpE_take (i := 7) (oi := { dst := some 12, op := Go.Op.move (Go.Operand.tmp 1), type := 23, pos := "stages.go:46", after := #[], guard := none }) (v := ?_) rfl (by kernel_rfl) (fun _ _ _ h => h) (Or.inl ⟨by rfl, fun W hW => ?_⟩) hS ?_
    rotate_left
    · (obtain ⟨hw1, hw2⟩ := hW); go_simp; (try go_bits); (try rw [if_pos (by omega)]); (try with_reducible rfl)
    (try simp only [Act.put, List.setIfInBounds_toArray, List.set_cons_succ, List.set_cons_zero])
    refine wpE_take (i := 8) (oi := { dst := some 13, op := Go.Op.move (Go.Operand.tmp 0), type := 208, pos := "stages.go:46", after := #[], guard := none }) (v := ?_) rfl (by kernel_rfl) (fun _ _ _ h => h) (Or.inl ⟨by rfl, fun W hW => ?_⟩) hS ?_
    rotate_left
    · (obtain ⟨hw1, hw2⟩ := hW); go_simp; (try go_bits); (try rw [if_pos (by omega)]); (try with_reducible rfl)
    (try simp only [Act.put, List.setIfInBounds_toArray, List.set_cons_succ, List.set_cons_zero])
    refine wpE_take (i := 9) (oi := { dst := some 14, op := Go.Op.nilCheck (Go.Operand.tmp 13), type := 0, pos := "stages.go:46", after := #[{ on := 8, ground := Go.Ground.data }], guard := none }) (v := ?_) rfl (by kernel_rfl) (fun _ _ _ h => h) (Or.inl ⟨by rfl, fun W hW => ?_⟩) hS ?_
    rotate_left
    · (obtain ⟨hw1, hw2⟩ := hW); go_simp; (try go_bits); (try rw [if_pos (by omega)]); (try with_reducible rfl)
    (try simp only [Act.put, List.setIfInBounds_toArray, List.set_cons_succ, List.set_cons_zero])
    refine wpE_take (i := 10) (oi := { dst := some 15, op := Go.Op.fieldAddr 185 (Go.Operand.tmp 14) 2, type := 0, pos := "stages.go:46", after := #[{ on := 9, ground := Go.Ground.data }], guard := none }) (v := ?_) rfl (by kernel_rfl) (fun _ _ _ h => h) (Or.inl ⟨by rfl, fun W hW => ?_⟩) hS ?_
    rotate_left
    · (obtain ⟨hw1, hw2⟩ := hW); go_simp; (try go_bits); (try rw [if_pos (by omega)]); (try with_reducible rfl)
    (try simp only [Act.put, List.setIfInBounds_toArray, List.set_cons_succ, List.set_cons_zero])
    refine wpE_take (i := 11) (oi := { dst := some 16, op := Go.Op.load 3 (Go.Operand.tmp 15), type := 3, pos := "stages.go:46", after := #[{ on := 10, ground := Go.Ground.data }], guard := none }) (v := ?_) rfl (by kernel_rfl) (fun _ _ _ h => h) (Or.inl ⟨by rfl, fun W hW => ?_⟩) hS ?_
    rotate_left
    · (obtain ⟨hw1, hw2⟩ := hW); go_simp; (try go_bits); (try rw [if_pos (by omega)]); (try with_reducible rfl)
    (try simp only [Act.put, List.setIfInBounds_toArray, List.set_cons_succ, List.set_cons_zero])
    refine wpE_take (i := 12) (oi := { dst := some 17, op := Go.Op.binOp Go.BinOp.mul 3 (Go.Operand.const (Go.Value.int Go.IntKind.i64 9)) (Go.Operand.tmp 16) 3, type := 3, pos := "stages.go:46", after := #[{ on := 11, ground := Go.Ground.data }], guard := none }) (v := ?_) rfl (by kernel_rfl) (fun _ _ _ h => h) (Or.inl ⟨by rfl, fun W hW => ?_⟩) hS ?_
    rotate_left
    · (obtain ⟨hw1, hw2⟩ := hW); go_simp; (try go_bits); (try rw [if_pos (by omega)]); (try with_reducible rfl)
    (try simp only [Act.put, List.setIfInBounds_toArray, List.set_cons_succ, List.set_cons_zero])
    refine wpE_take (i := 13) (oi := { dst := some 18, op := Go.Op.binOp Go.BinOp.add 3 (Go.Operand.const (Go.Value.int Go.IntKind.i64 12)) (Go.Operand.tmp 17) 3, type := 3, pos := "stages.go:46", after := #[{ on := 12, ground := Go.Ground.data }], guard := none }) (v := ?_) rfl (by kernel_rfl) (fun _ _ _ h => h) (Or.inl ⟨by rfl, fun W hW => ?_⟩) hS ?_
    rotate_left
    · (obtain ⟨hw1, hw2⟩ := hW); go_simp; (try go_bits); (try rw [if_pos (by omega)]); (try with_reducible rfl)
    (try simp only [Act.put, List.setIfInBounds_toArray, List.set_cons_succ, List.set_cons_zero])
    refine wpE_take (i := 14) (oi := { dst := some 19, op := Go.Op.binOp Go.BinOp.shl 23 (Go.Operand.const (Go.Value.int Go.IntKind.u64 1)) (Go.Operand.tmp 18) 3, type := 23, pos := "stages.go:46", after := #[{ on := 13, ground := Go.Ground.data }], guard := none }) (v := ?_) rfl (by kernel_rfl) (fun _ _ _ h => h) (Or.inl ⟨by rfl, fun W hW => ?_⟩) hS ?_
    rotate_left
    · (obtain ⟨hw1, hw2⟩ := hW); go_simp; (try go_bits); (try rw [if_pos (by omega)]); (try with_reducible rfl)
    (try simp only [Act.put, List.setIfInBounds_toArray, List.set_cons_succ, List.set_cons_zero])
    refine wpE_take (i := 15) (oi := { dst := some 20, op := Go.Op.binOp Go.BinOp.sub 23 (Go.Operand.tmp 19) (Go.Operand.const (Go.Value.int Go.IntKind.u64 1)) 23, type := 23, pos := "stages.go:46", after := #[{ on := 14, ground := Go.Ground.data }], guard := none }) (v := ?_) rfl (by kernel_rfl) (fun _ _ _ h => h) (Or.inl ⟨by rfl, fun W hW => ?_⟩) hS ?_
    rotate_left
    · (obtain ⟨hw1, hw2⟩ := hW); go_simp; (try go_bits); (try rw [if_pos (by omega)]); (try with_reducible rfl)
    (try simp only [Act.put, List.setIfInBounds_toArray, List.set_cons_succ, List.set_cons_zero])
    refine wpE_take (i := 16) (oi := { dst := some 21, op := Go.Op.binOp Go.BinOp.and 23 (Go.Operand.tmp 12) (Go.Operand.tmp 20) 23, type := 23, pos := "stages.go:46", after := #[{ on := 7, ground := Go.Ground.data }, { on := 15, ground := Go.Ground.data }], guard := none }) (v := .int .u64 (r : Int)) rfl (by kernel_rfl) (fun _ _ _ h => h) (Or.inl ⟨by rfl, fun W hW => ?_⟩) hS ?_
    · (obtain ⟨hw1, hw2⟩ := hW); go_simp; (try rw [HF2.out]); (try trivial)
    (try simp only [Act.put, List.setIfInBounds_toArray, List.set_cons_succ, List.set_cons_zero])
    refine wpE_take (i := 17) (oi := { dst := some 22, op := Go.Op.binOp Go.BinOp.or 23 (Go.Operand.tmp 11) (Go.Operand.tmp 21) 23, type := 23, pos := "stages.go:46", after := #[{ on := 6, ground := Go.Ground.data }, { on := 16, ground := Go.Ground.data }], guard := none }) (v := .int .u64 (P : Int)) rfl (by kernel_rfl) (fun _ _ _ h => h) (Or.inl ⟨by rfl, fun W hW => ?_⟩) hS ?_
    · (obtain ⟨hw1, hw2⟩ := hW); go_simp; (try rw [show ((f : Int) * 4096) = ((f * 4096 : Nat) : Int) from by omega]); (try rw [HF.out.2.2]); (try omega)
    (try simp only [Act.put, List.setIfInBounds_toArray, List.set_cons_succ, List.set_cons_zero])
    refine wpE_last (oi := { dst := some 4, op := Go.Op.assign (Go.Operand.tmp 22), type := 23, pos := "stages.go:46", after := #[{ on := 17, ground := Go.Ground.data }, { on := 0, ground := Go.Ground.phase }, { on := 1, ground := Go.Ground.phase }, { on := 2, ground := Go.Ground.phase }, { on := 3, ground := Go.Ground.phase }, { on := 4, ground := Go.Ground.phase }, { on := 5, ground := Go.Ground.phase }, { on := 6, ground := Go.Ground.phase }, { on := 7, ground := Go.Ground.phase }, { on := 8, ground := Go.Ground.phase }, { on := 9, ground := Go.Ground.phase }, { on := 10, ground := Go.Ground.phase }, { on := 11, ground := Go.Ground.phase }, { on := 12, ground := Go.Ground.phase }, { on := 13, ground := Go.Ground.phase }, { on := 14, ground := Go.Ground.phase }, { on := 15, ground := Go.Ground.phase }, { on := 16, ground := Go.Ground.phase }, { on := 17, ground := Go.Ground.phase }], guard := none }) rfl (by kernel_rfl) (by kernel_rfl) (by rfl) (fun K hK => ?_)
    go_simp; (try go_bits); refine hK _ _ ?_; clear hK K
    go_wp2
    go_ret
    exact ⟨rfl, rfl⟩
theorem perm_g (e : Nat) (he : e < 18446744073709551616) : bits .and .u64 (e : Int) 14 = ((e &&& 14 : Nat) : Int) ∧ e &&& 14 < 15 ∧ bits .andNot .i64 ((e &&& 14 : Nat) : Int) 4 = ((e &&& 10 : Nat) : Int) := by
  have h1 : bits .and .u64 (e : Int) 14 = ((e &&& 14 : Nat) : Int) := by rw [show (14 : Int) = ((14 : Nat) : Int) from rfl, u64_and_nat _ _ he (by decide)]
  have h2 : e &&& 14 ≤ 14 := Nat.and_le_right
  refine ⟨h1, by omega, ?_⟩
  have h3 : e &&& 10 = (e &&& 15) &&& 10 := by rw [Nat.and_assoc]; rfl
  have h4 : e &&& 14 = (e &&& 15) &&& 14 := by rw [Nat.and_assoc]; rfl
  have h5 : e &&& 15 ≤ 15 := Nat.and_le_right
  rw [h3, h4]
  generalize e &&& 15 = q at *
  have key : ∀ q : Nat, q < 16 → bits .andNot .i64 ((q &&& 14 : Nat) : Int) 4 = ((q &&& 10 : Nat) : Int) := by decide +kernel
  exact key q (by omega)
set_option maxHeartbeats 4000000 in
theorem wk_goG {b rb root a acc : Nat} {lf lv : Int} (hM : MemAt ramK own c w rp (b0 * 4096) n m) (hc : c ≠ 7) (hR : Blk w rb 31 #[.pointer (some ⟨rp, 0, none⟩)]) (hB : GecAt w b rb lf lv (root : Int)) (hob : own b = 7) (hor : own rb ≠ 7)
    (hr : root < 18446744073709551616) (ha : a < 18446744073709551616) (hacc : acc = 1 ∨ acc = 2 ∨ acc = 3) :
    Calls Tryz.prog 99 #[.pointer (some ⟨b, 0, none⟩), .int .u64 (a : Int), .int .i64 (acc : Int)] w fun r w' =>
      r = .returned (.tuple #[.int .u64 (((guestP b0 n m root a acc).1 : Nat) : Int), .int .i64 (((guestP b0 n m root a acc).2.1 : Nat) : Int), .int .i64 (guestP b0 n m root a acc).2.2]) ∧ Step (· = 7) own w own w' := by
  obtain ⟨G, hG⟩ : ∃ G, guestP b0 n m root a acc = G := ⟨_, rfl⟩
  rw [hG]
  obtain ⟨x0, x1, x2, x3⟩ := hB.cells
  by_cases h0 : root = 0
  · subst h0
    unfold guestP at hG
    rw [if_pos rfl] at hG
    subst hG
    rw [show ((0 : Nat) : Int) = 0 from rfl] at x3
    clear hM hR hB
    go_enter Tryz.func99, Tryz.ntmps99
    go_wp2
    go_ret3
    exact ⟨rfl, Step.refl _ _ _⟩
  have hr0 : ((root : Int) == 0) = false := by simp; omega
  by_cases h39 : 549755813888 ≤ a
  · unfold guestP at hG
    rw [if_neg h0, if_pos h39] at hG
    subst hG
    have ha39 : decide ((549755813888 : Int) ≤ (a : Int)) = true := by simp; omega
    clear hM hR hB
    go_enter Tryz.func99, Tryz.ntmps99
    go_wp2
    go_ret3
    exact ⟨rfl, Step.refl _ _ _⟩
  have ha39 : decide ((549755813888 : Int) ≤ (a : Int)) = false := by simp; omega
  have hok := dnG_ok hM.bd b0 n a root
  unfold guestP at hG
  rw [if_neg h0, if_neg h39] at hG
  have hstd : Step (fun _ => False) own w own w.drew := (Step.refl _ _ _).drew
  have hBd : GecAt w.drew b rb lf lv (root : Int) := hB.drew
  have hD := wk_downG (hM.step hstd (fun h => h)) hc hR.drew hBd hob hor hr (by omega : a < 549755813888)
  obtain ⟨D, hDD⟩ : ∃ D, dnG b0 n m a 2 root = D := ⟨_, rfl⟩
  rw [hDD] at hD hG hok
  have HD := Lib.hid hD
  have HSD := Lib.hid (hstd.mono (C' := (· = 7)) (fun _ h => h.elim))
  have HG := Lib.hid hG
  have HOK := Lib.hid hok
  have ha39' : a < 549755813888 := by omega
  clear hM hR hB hstd hBd hD hDD hG hok h0 h39
  go_enter Tryz.func99, Tryz.ntmps99
  go_wp2_with fail
  refine wpE_region (S := fun (W' : World) => W'.cell? ⟨b, 3, none⟩ = some (.int .u64 (root : Int))) (s := 9) (by kernel_rfl) ?_
  have hS : (fun (W' : World) => W'.cell? ⟨b, 3, none⟩ = some (.int .u64 (root : Int))) _ := x3
  refine wpE_take (i := 0) (oi := { dst := some 17, op := Go.Op.move (Go.Operand.tmp 0), type := 181, pos := "stages.go:66", after := #[], guard := none }) (v := ?_) rfl (by kernel_rfl) (fun _ _ _ h => h) (Or.inl ⟨by rfl, fun W hW => ?_⟩) hS ?_
  rotate_left
  · (have hw1 : W.cell? ⟨b, 3, none⟩ = some (.int .u64 (root : Int)) := hW); go_simp; (try go_bits); (try rw [if_pos (by omega)]); (try with_reducible rfl)
  (try simp only [Act.put, List.setIfInBounds_toArray, List.set_cons_succ, List.set_cons_zero])
  refine wpE_take (i := 1) (oi := { dst := some 18, op := Go.Op.nilCheck (Go.Operand.tmp 17), type := 0, pos := "stages.go:66", after := #[{ on := 0, ground := Go.Ground.data }], guard := none }) (v := ?_) rfl (by kernel_rfl) (fun _ _ _ h => h) (Or.inl ⟨by rfl, fun W hW => ?_⟩) hS ?_
  rotate_left
  · (have hw1 : W.cell? ⟨b, 3, none⟩ = some (.int .u64 (root : Int)) := hW); go_simp; (try go_bits); (try rw [if_pos (by omega)]); (try with_reducible rfl)
  (try simp only [Act.put, List.setIfInBounds_toArray, List.set_cons_succ, List.set_cons_zero])
  refine wpE_take (i := 2) (oi := { dst := some 19, op := Go.Op.fieldAddr 187 (Go.Operand.tmp 18) 0, type := 0, pos := "stages.go:66", after := #[{ on := 1, ground := Go.Ground.data }], guard := none }) (v := ?_) rfl (by kernel_rfl) (fun _ _ _ h => h) (Or.inl ⟨by rfl, fun W hW => ?_⟩) hS ?_
  rotate_left
  · (have hw1 : W.cell? ⟨b, 3, none⟩ = some (.int .u64 (root : Int)) := hW); go_simp; (try go_bits); (try rw [if_pos (by omega)]); (try with_reducible rfl)
  (try simp only [Act.put, List.setIfInBounds_toArray, List.set_cons_succ, List.set_cons_zero])
  refine wpE_take (i := 3) (oi := { dst := some 20, op := Go.Op.move (Go.Operand.tmp 0), type := 181, pos := "stages.go:66", after := #[], guard := none }) (v := ?_) rfl (by kernel_rfl) (fun _ _ _ h => h) (Or.inl ⟨by rfl, fun W hW => ?_⟩) hS ?_
  rotate_left
  · (have hw1 : W.cell? ⟨b, 3, none⟩ = some (.int .u64 (root : Int)) := hW); go_simp; (try go_bits); (try rw [if_pos (by omega)]); (try with_reducible rfl)
  (try simp only [Act.put, List.setIfInBounds_toArray, List.set_cons_succ, List.set_cons_zero])
  refine wpE_take (i := 4) (oi := { dst := some 21, op := Go.Op.nilCheck (Go.Operand.tmp 20), type := 0, pos := "stages.go:66", after := #[{ on := 3, ground := Go.Ground.data }], guard := none }) (v := ?_) rfl (by kernel_rfl) (fun _ _ _ h => h) (Or.inl ⟨by rfl, fun W hW => ?_⟩) hS ?_
  rotate_left
  · (have hw1 : W.cell? ⟨b, 3, none⟩ = some (.int .u64 (root : Int)) := hW); go_simp; (try go_bits); (try rw [if_pos (by omega)]); (try with_reducible rfl)
  (try simp only [Act.put, List.setIfInBounds_toArray, List.set_cons_succ, List.set_cons_zero])
  refine wpE_take (i := 5) (oi := { dst := some 22, op := Go.Op.fieldAddr 187 (Go.Operand.tmp 21) 1, type := 0, pos := "stages.go:66", after := #[{ on := 4, ground := Go.Ground.data }], guard := none }) (v := ?_) rfl (by kernel_rfl) (fun _ _ _ h => h) (Or.inl ⟨by rfl, fun W hW => ?_⟩) hS ?_
  rotate_left
  · (have hw1 : W.cell? ⟨b, 3, none⟩ = some (.int .u64 (root : Int)) := hW); go_simp; (try go_bits); (try rw [if_pos (by omega)]); (try with_reducible rfl)
  (try simp only [Act.put, List.setIfInBounds_toArray, List.set_cons_succ, List.set_cons_zero])
  refine wpE_take (i := 6) (oi := { dst := some 23, op := Go.Op.load 23 (Go.Operand.tmp 22), type := 23, pos := "stages.go:66", after := #[{ on := 5, ground := Go.Ground.data }], guard := none }) (v := ?_) rfl (by kernel_rfl) (fun _ _ _ h => h) (Or.inl ⟨by rfl, fun W hW => ?_⟩) hS ?_
  rotate_left
  · (have hw1 : W.cell? ⟨b, 3, none⟩ = some (.int .u64 (root : Int)) := hW); go_simp; (try go_bits); (try rw [if_pos (by omega)]); (try with_reducible rfl)
  (try simp only [Act.put, List.setIfInBounds_toArray, List.set_cons_succ, List.set_cons_zero])
  refine wpE_take (i := 7) (oi := { dst := some 24, op := Go.Op.move (Go.Operand.tmp 1), type := 23, pos := "stages.go:66", after := #[], guard := none }) (v := ?_) rfl (by kernel_rfl) (fun _ _ _ h => h) (Or.inl ⟨by rfl, fun W hW => ?_⟩) hS ?_
  rotate_left
  · (have hw1 : W.cell? ⟨b, 3, none⟩ = some (.int .u64 (root : Int)) := hW); go_simp; (try go_bits); (try rw [if_pos (by omega)]); (try with_reducible rfl)
  (try simp only [Act.put, List.setIfInBounds_toArray, List.set_cons_succ, List.set_cons_zero])
  refine wpE_only (i := 8) (oi := { dst := some 25, op := Go.Op.call { callee := Go.Callee.value (Go.Operand.func 118), args := #[Go.Operand.tmp 19, Go.Operand.tmp 23, Go.Operand.tmp 24], argTypes := #[185, 23, 23] }, type := 3, pos := "stages.go:66", after := #[{ on := 2, ground := Go.Ground.data }, { on := 6, ground := Go.Ground.data }, { on := 7, ground := Go.Ground.data }], guard := none }) rfl (by kernel_rfl) (by rfl) (fun K hK => ?_)
  go_simp
  refine HD.out.mono ?_; rintro q w2 ⟨lf2, lv2, rfl, hS2, hB2, hle⟩
  have hS : w2.cell? ⟨b, 3, none⟩ = some (.int .u64 (root : Int)) := hB2.cells.2.2.2
  have H2 := Lib.hid (And.intro (HSD.out.trans hS2) (And.intro hB2 hle))
  clear hS2 hB2 hle HD HSD
  refine hK _ _ hS ?_; clear hK K
  (try simp only [Act.put, List.setIfInBounds_toArray, List.set_cons_succ, List.set_cons_zero])
  refine wpE_last (oi := { dst := some 8, op := Go.Op.assign (Go.Operand.tmp 25), type := 3, pos := "stages.go:66", after := #[{ on := 8, ground := Go.Ground.data }, { on := 8, ground := Go.Ground.chain }, { on := 0, ground := Go.Ground.phase }, { on := 1, ground := Go.Ground.phase }, { on := 2, ground := Go.Ground.phase }, { on := 3, ground := Go.Ground.phase }, { on := 4, ground := Go.Ground.phase }, { on := 5, ground := Go.Ground.phase }, { on := 6, ground := Go.Ground.phase }, { on := 7, ground := Go.Ground.phase }, { on := 8, ground := Go.Ground.phase }], guard := none }) rfl (by kernel_rfl) (by kernel_rfl) (by rfl) (fun K hK => ?_)
  go_simp; (try go_bits); refine hK _ _ ?_; clear hK K
  clear hS
  rcases HOK.out.f with hf | hf | hf
  · rw [hf]
    obtain ⟨hl1, hl2⟩ := H2.out.2.2 hf
    have hB2 := H2.out.2.1
    rw [hl1, hl2] at hB2
    have he := HOK.out.e
    have hal := HOK.out.al hf
    have hlv := HOK.out.lv
    have hg := HG.out
    rw [if_neg (by rw [hf]; decide)] at hg
    have HL := Lib.hid (wk_letsG hB2 he acc hacc)
    have HB2 := Lib.hid hB2
    obtain ⟨lt, hlt⟩ : ∃ lt, letE D.2.1 acc = lt := ⟨_, rfl⟩
    rw [hlt] at HL hg
    have HH := Lib.hid (And.intro hg hf)
    clear hg hf hl1 hl2 hB2 HG hlt
    go_wp2_with fail
    ((with_reducible refine HL.out.mono ?_); rintro q wz ⟨rfl, rfl⟩)
    clear HL
    cases lt with
    | false =>
      have hg := HH.out.1
      rw [if_neg (by simp)] at hg
      subst hg
      clear HH
      go_wp2
      go_ret3
      exact ⟨rfl, H2.out.1⟩
    | true =>
      have hg := HH.out.1
      rw [if_pos ⟨HH.out.2, rfl⟩] at hg
      subst hg
      obtain ⟨z0, z1, z2, z3⟩ := HB2.out.cells
      obtain ⟨p1, p2, p3⟩ := perm_g D.2.1 he
      have hHas := wk_hasG HB2.out he 128 (by decide)
      rw [show ((128 : Nat) : Int) = 128 from rfl] at hHas
      have HHas := Lib.hid hHas
      clear hHas
      have HPl := Lib.hid (wk_placeG HB2.out he hlv hal a ha39')
      have hpe : permE D.2.1 = if (D.2.1 &&& 128 == 128) = true then D.2.1 &&& 14 else D.2.1 &&& 10 := by unfold permE; simp
      have h10 : D.2.1 &&& 10 ≤ 10 := Nat.and_le_right
      obtain ⟨dd, hdd⟩ : ∃ dd, (D.2.1 &&& 128 == 128) = dd := ⟨_, rfl⟩
      rw [hdd] at HHas hpe
      obtain ⟨q14, hq14⟩ : ∃ q, D.2.1 &&& 14 = q := ⟨_, rfl⟩
      obtain ⟨q10, hq10⟩ : ∃ q, D.2.1 &&& 10 = q := ⟨_, rfl⟩
      rw [hq14] at p1 p2 p3 hpe
      rw [hq10] at p3 hpe h10
      have HPE := Lib.hid hpe
      clear hpe hdd hq14 hq10 HH hal
      cases dd with
      | true =>
        go_wp2_with fail
        ((with_reducible refine HHas.out.mono ?_); rintro q wz ⟨rfl, rfl⟩)
        clear HHas p3
        go_wp2_with fail
        ((with_reducible refine HPl.out.mono ?_); rintro q wz ⟨rfl, rfl⟩)
        have HPE2 := Lib.hid (show permE D.2.1 = q14 by simpa using HPE.out)
        have HS := Lib.hid (H2.out.1.drew)
        clear HPl HPE p1
        go_wp2
        go_ret3
        exact ⟨by rw [HPE2.out]; rfl, HS.out⟩
      | false =>
        go_wp2_with fail
        ((with_reducible refine HHas.out.mono ?_); rintro q wz ⟨rfl, rfl⟩)
        clear HHas
        go_wp2_with fail
        ((with_reducible refine HPl.out.mono ?_); rintro q wz ⟨rfl, rfl⟩)
        have HPE2 := Lib.hid (show permE D.2.1 = q10 by simpa using HPE.out)
        have HS := Lib.hid (H2.out.1.drew)
        clear HPl HPE p1
        go_wp2
        go_ret3
        exact ⟨by rw [HPE2.out]; rfl, HS.out⟩
  · have hg := HG.out
    rw [if_neg (by rw [hf]; decide), if_neg (by rw [hf]; simp)] at hg
    subst hg
    rw [hf]
    clear hf HOK HG
    go_wp2
    go_ret3
    exact ⟨rfl, H2.out.1⟩
  · have hg := HG.out
    rw [if_pos hf] at hg
    subst hg
    rw [hf]
    clear hf HOK HG
    go_wp2
    go_ret3
    exact ⟨rfl, H2.out.1⟩
set_option maxHeartbeats 2000000 in
theorem page_GuestG {root a acc : Nat} (hM : MemAt ramK own c w rp (b0 * 4096) n m) (hc : c ≠ 7) (hr : root < 18446744073709551616) (ha : a < 18446744073709551616) (hacc : acc = 1 ∨ acc = 2 ∨ acc = 3) :
    Calls Tryz.prog 66 #[.pointer (some ⟨rp, 0, none⟩), .int .u64 (root : Int), .int .u64 (a : Int), .int .i64 (acc : Int)] w fun r w' =>
      r = .returned (.tuple #[.int .u64 (((guestP b0 n m root a acc).1 : Nat) : Int), .int .i64 (((guestP b0 n m root a acc).2.1 : Nat) : Int), .int .i64 (guestP b0 n m root a acc).2.2]) ∧ Upd (fun _ => False) w w' := by
  obtain ⟨own0, h0, h7⟩ : ∃ own0 : Nat → Nat, (∀ b, own b = c → own0 b = c) ∧ ∀ b, own0 b ≠ 7 := ⟨fun b => if own b = 7 then 0 else own b, fun b e => by show (if own b = 7 then 0 else own b) = c; rw [if_neg (by omega)]; exact e, fun b => by show (if own b = 7 then 0 else own b) ≠ 7; split <;> omega⟩
  have hM0 := hM.recolG h0
  have HM := Lib.hid hM0
  obtain ⟨G, hG⟩ : ∃ G, guestP b0 n m root a acc = G := ⟨_, rfl⟩
  rw [hG]
  have HG := Lib.hid hG
  clear hM hM0 h0 hG
  go_enter Tryz.func66, Tryz.ntmps66
  go_wp2_with fail
  refine (page_entryB rp _).mono ?_; rintro q w1 ⟨rb, rfl, hU1, hlrb, hBr⟩
  have hS1 : Step (fun _ => False) own0 w own0 w1 := ⟨hU1, fun _ _ => rfl⟩
  have hst : Step (fun _ => False) own0 w1 (ext own0 w1 7) (w1.alloc (.cells #[.func (.func 117) #[] #[.pointer (some ⟨rb, 0, none⟩)], .int .u64 0, .int .i64 0, .int .u64 (root : Int)] 187)) := ⟨(Upd.refl _ _).alloc _, fun b hb => ext_old _ _ _ hb⟩
  have hGo := wk_goG (acc := acc) (HM.out.step (hS1.trans hst) (fun h => h)) hc (hBr.alloc _) (show GecAt _ w1.heap.size rb 0 0 (root : Int) from Blk.new w1 187 _) (ext_new _ _ _ (Nat.le_refl _)) (by rw [ext_old own0 w1 7 hBr.lt]; exact h7 rb) hr ha hacc
  rw [HG.out] at hGo
  have HGo := Lib.hid hGo
  have HU := Lib.hid (hS1.trans hst)
  clear hS1 hst hGo hU1 hBr HM HG
  go_wp2_with fail
  refine HGo.out.mono ?_; rintro q w2 ⟨rfl, hS2⟩
  have HE := Lib.hid (HU.out.upd.trans' hS2.upd (fun i hi e => h7 i (by rw [← HU.out.old i hi]; exact e)))
  clear hS2 HGo HU
  go_wp2
  go_ret3
  exact ⟨rfl, HE.out⟩
end
end Go.Proofs.YtonhlgfgbdiapaaGreat
