import Derived.Test.YtjhibbhinbdciaaQu5
/- A virtqueue: Push. -/
namespace Go.Proofs.Ytjhibbhinbdciaa
set_option linter.unusedVariables false
set_option linter.unusedSimpArgs false
open Go.RowKit
set_option maxRecDepth 100000
def usA (q : Qu) : Int := ((q.us + 4 + 8 * (q.gv % q.sz) : Nat) : Int)
/-- what a chain that is given back comes to: an error, the memory, the queue -/
def pushQ (base n : Nat) (m : Nat → Int) (q : Qu) (h v : Int) : Int × (Nat → Int) × Qu :=
  if usQ q = 0 then
    if hasR base n (usA q) 4 = true then
      if hasR base n (usA q + 4) 4 = true then
        if hasR base n ((q.us : Int) + 2) 2 = true then (0, wrR base n (wrR base n (wrR base n m (usA q) 4 h) (usA q + 4) 4 v) ((q.us : Int) + 2) 2 (((q.gv + 1) % 65536 : Nat) : Int), { q with gv := (q.gv + 1) % 65536 })
        else (32, wrR base n (wrR base n m (usA q) 4 h) (usA q + 4) 4 v, { q with de := true })
      else (32, wrR base n m (usA q) 4 h, { q with de := true })
    else (32, m, { q with de := true })
  else (usQ q, m, q)
section
variable {own own' : Nat → Nat} {c cm p mp base n : Nat} {w w' : World} {q : Qu} {m : Nat → Int}
theorem wrR_no {a s v : Int} (h : hasR base n a s = false) : wrR base n m a s v = m := by unfold wrR; rw [h, Bool.and_false]; rfl
set_option maxHeartbeats 8000000 in
theorem q_Push (h : QAt own c w p q) (hM : MemAt ramK own cm w mp base n m) (hcm : cm ≠ c) (hok : QuOk q) (hd v : Int) (hh0 : -9223372036854775808 ≤ hd) (hh1 : hd ≤ 9223372036854775807) (hv0 : 0 ≤ v) (hv1 : v < 18446744073709551616) :
    Calls Try.prog 17 #[.pointer (some ⟨p, 0, none⟩), memV mp, .int .i64 hd, .int .u64 v] w fun e w' =>
      e = .returned (.int .i64 (pushQ base n m q (hd % 18446744073709551616) v).1) ∧ ∃ own', Step (fun x => x = c ∨ x = cm) own w own' w' ∧ QAt own' c w' p (pushQ base n m q (hd % 18446744073709551616) v).2.2 ∧
        MemAt ramK own' cm w' mp base n (pushQ base n m q (hd % 18446744073709551616) v).2.1 := by
  obtain ⟨U, hU⟩ : ∃ u, usQ q = u := ⟨_, rfl⟩
  have hu := q_usable h
  rw [hU] at hu
  have HU := Lib.hid hu
  have H0 := Lib.hid (And.intro h (And.intro hM (And.intro hok (And.intro hU hcm))))
  obtain ⟨_, c1, c2, _, _, c5, _, c7⟩ := h.cells
  have hhw : IntKind.u64.wrap hd = hd % 18446744073709551616 := by rfl
  obtain ⟨H, hH⟩ : ∃ z, hd % 18446744073709551616 = z := ⟨_, rfl⟩
  have hHb : 0 ≤ H ∧ H < 18446744073709551616 := by omega
  rw [hH] at hhw ⊢
  clear h hM hcm hu hU hH
  by_cases hu0 : U = 0
  · obtain ⟨hrd, hde⟩ := usQ_zero (H0.out.2.2.2.1.trans hu0)
    obtain ⟨hsz1, hsz2⟩ := hok.sz hrd
    have hgv := hok.gv
    have hus := hok.us
    have hz : ¬ q.sz = 0 := by omega
    obtain ⟨R, hR⟩ : ∃ r, q.gv % q.sz = r := ⟨_, rfl⟩
    have hRl : R < q.sz := hR ▸ Nat.mod_lt _ (by omega)
    have ht : Int.tmod (q.gv : Int) (q.sz : Int) = (R : Int) := by rw [Int.tmod_eq_emod_of_nonneg (by omega)]; omega
    have hk1 : IntKind.u64.wrap (q.gv : Int) = (q.gv : Int) := IntWalk.u64_in _ (by omega)
    obtain ⟨A2, hA2⟩ : ∃ a, q.us + 4 = a := ⟨_, rfl⟩
    obtain ⟨A3, hA3⟩ : ∃ a, 8 * R = a := ⟨_, rfl⟩
    obtain ⟨A4, hA4⟩ : ∃ a, A2 + A3 = a := ⟨_, rfl⟩
    have hw2 : IntKind.u64.wrap ((q.us : Int) + 4) = (A2 : Int) := by rw [IntWalk.u64_in _ (by omega)]; omega
    have hw3 : IntKind.u64.wrap (8 * (R : Int)) = (A3 : Int) := by rw [IntWalk.u64_in _ (by omega)]; omega
    have hw4 : IntKind.u64.wrap ((A2 : Int) + (A3 : Int)) = (A4 : Int) := by rw [IntWalk.u64_in _ (by omega)]; omega
    have huA : usA q = (A4 : Int) := by unfold usA; rw [hR]; omega
    have hA4b : A4 < 1152921504606850000 := by omega
    have HA := Lib.hid (And.intro huA (And.intro hu0 (And.intro hrd hde)))
    have hne : (U != 0) = false := by simp [hu0]
    clear hR hRl hA2 hA3 hA4 huA hrd hde hu0 hsz1 hsz2
    unfold memV
    go_enter Try.func17, Try.ntmps17
    go_wp2_with fail
    ((with_reducible refine HU.out.mono ?_); rintro e wz ⟨rfl, rfl⟩)
    clear HU
    go_wp2_with fail
    refine wpE_region (S := fun (W' : World) => W'.cell? ⟨p, 2, none⟩ = some (.int .u64 (q.sz : Int)) ∧ W'.cell? ⟨p, 5, none⟩ = some (.int .u64 (q.us : Int)) ∧ W'.cell? ⟨p, 7, none⟩ = some (.int .u16 (q.gv : Int))) (s := 17) (by kernel_rfl) ?_
    have hS : (fun (W' : World) => W'.cell? ⟨p, 2, none⟩ = some (.int .u64 (q.sz : Int)) ∧ W'.cell? ⟨p, 5, none⟩ = some (.int .u64 (q.us : Int)) ∧ W'.cell? ⟨p, 7, none⟩ = some (.int .u16 (q.gv : Int))) _ := ⟨c2, c5, c7⟩
    refine wpE_take (i := 0) (oi := { dst := some 16, op := Go.Op.move (Go.Operand.tmp 0), type := 30, pos := "virtq.go:144", after := #[], guard := none }) (v := ?_) rfl (by kernel_rfl) (fun _ _ _ h => h) (Or.inl ⟨by rfl, fun W hW => ?_⟩) hS ?_
    rotate_left
    · obtain ⟨hw', hw'', hw'''⟩ := hW; go_simp; (try go_bits); (try rw [if_pos (by omega)]); (try with_reducible rfl)
    (try simp only [Act.put, List.setIfInBounds_toArray, List.set_cons_succ, List.set_cons_zero])
    refine wpE_take (i := 1) (oi := { dst := some 17, op := Go.Op.nilCheck (Go.Operand.tmp 16), type := 0, pos := "virtq.go:144", after := #[{ on := 0, ground := Go.Ground.data }], guard := none }) (v := ?_) rfl (by kernel_rfl) (fun _ _ _ h => h) (Or.inl ⟨by rfl, fun W hW => ?_⟩) hS ?_
    rotate_left
    · obtain ⟨hw', hw'', hw'''⟩ := hW; go_simp; (try go_bits); (try rw [if_pos (by omega)]); (try with_reducible rfl)
    (try simp only [Act.put, List.setIfInBounds_toArray, List.set_cons_succ, List.set_cons_zero])
    refine wpE_take (i := 2) (oi := { dst := some 18, op := Go.Op.fieldAddr 82 (Go.Operand.tmp 17) 5, type := 0, pos := "virtq.go:144", after := #[{ on := 1, ground := Go.Ground.data }], guard := none }) (v := ?_) rfl (by kernel_rfl) (fun _ _ _ h => h) (Or.inl ⟨by rfl, fun W hW => ?_⟩) hS ?_
    rotate_left
    · obtain ⟨hw', hw'', hw'''⟩ := hW; go_simp; (try go_bits); (try rw [if_pos (by omega)]); (try with_reducible rfl)
    (try simp only [Act.put, List.setIfInBounds_toArray, List.set_cons_succ, List.set_cons_zero])
    refine wpE_take (i := 3) (oi := { dst := some 19, op := Go.Op.load 29 (Go.Operand.tmp 18), type := 29, pos := "virtq.go:144", after := #[{ on := 2, ground := Go.Ground.data }], guard := none }) (v := ?_) rfl (by kernel_rfl) (fun _ _ _ h => h) (Or.inl ⟨by rfl, fun W hW => ?_⟩) hS ?_
    rotate_left
    · obtain ⟨hw', hw'', hw'''⟩ := hW; go_simp; (try go_bits); (try rw [if_pos (by omega)]); (try with_reducible rfl)
    (try simp only [Act.put, List.setIfInBounds_toArray, List.set_cons_succ, List.set_cons_zero])
    refine wpE_take (i := 4) (oi := { dst := some 20, op := Go.Op.binOp Go.BinOp.add 29 (Go.Operand.tmp 19) (Go.Operand.const (Go.Value.int Go.IntKind.u64 4)) 29, type := 29, pos := "virtq.go:144", after := #[{ on := 3, ground := Go.Ground.data }], guard := none }) (v := ?_) rfl (by kernel_rfl) (fun _ _ _ h => h) (Or.inl ⟨by rfl, fun W hW => ?_⟩) hS ?_
    rotate_left
    · obtain ⟨hw', hw'', hw'''⟩ := hW; go_simp; (try go_bits); (try rw [if_pos (by omega)]); (try with_reducible rfl)
    (try simp only [Act.put, List.setIfInBounds_toArray, List.set_cons_succ, List.set_cons_zero])
    refine wpE_take (i := 5) (oi := { dst := some 21, op := Go.Op.move (Go.Operand.tmp 0), type := 30, pos := "virtq.go:144", after := #[], guard := none }) (v := ?_) rfl (by kernel_rfl) (fun _ _ _ h => h) (Or.inl ⟨by rfl, fun W hW => ?_⟩) hS ?_
    rotate_left
    · obtain ⟨hw', hw'', hw'''⟩ := hW; go_simp; (try go_bits); (try rw [if_pos (by omega)]); (try with_reducible rfl)
    (try simp only [Act.put, List.setIfInBounds_toArray, List.set_cons_succ, List.set_cons_zero])
    refine wpE_take (i := 6) (oi := { dst := some 22, op := Go.Op.nilCheck (Go.Operand.tmp 21), type := 0, pos := "virtq.go:144", after := #[{ on := 5, ground := Go.Ground.data }], guard := none }) (v := ?_) rfl (by kernel_rfl) (fun _ _ _ h => h) (Or.inl ⟨by rfl, fun W hW => ?_⟩) hS ?_
    rotate_left
    · obtain ⟨hw', hw'', hw'''⟩ := hW; go_simp; (try go_bits); (try rw [if_pos (by omega)]); (try with_reducible rfl)
    (try simp only [Act.put, List.setIfInBounds_toArray, List.set_cons_succ, List.set_cons_zero])
    refine wpE_take (i := 7) (oi := { dst := some 23, op := Go.Op.fieldAddr 82 (Go.Operand.tmp 22) 7, type := 0, pos := "virtq.go:144", after := #[{ on := 6, ground := Go.Ground.data }], guard := none }) (v := ?_) rfl (by kernel_rfl) (fun _ _ _ h => h) (Or.inl ⟨by rfl, fun W hW => ?_⟩) hS ?_
    rotate_left
    · obtain ⟨hw', hw'', hw'''⟩ := hW; go_simp; (try go_bits); (try rw [if_pos (by omega)]); (try with_reducible rfl)
    (try simp only [Act.put, List.setIfInBounds_toArray, List.set_cons_succ, List.set_cons_zero])
    refine wpE_take (i := 8) (oi := { dst := some 24, op := Go.Op.load 80 (Go.Operand.tmp 23), type := 80, pos := "virtq.go:144", after := #[{ on := 7, ground := Go.Ground.data }], guard := none }) (v := ?_) rfl (by kernel_rfl) (fun _ _ _ h => h) (Or.inl ⟨by rfl, fun W hW => ?_⟩) hS ?_
    rotate_left
    · obtain ⟨hw', hw'', hw'''⟩ := hW; go_simp; (try go_bits); (try rw [if_pos (by omega)]); (try with_reducible rfl)
    (try simp only [Act.put, List.setIfInBounds_toArray, List.set_cons_succ, List.set_cons_zero])
    refine wpE_take (i := 9) (oi := { dst := some 25, op := Go.Op.convert 80 29 (Go.Operand.tmp 24), type := 29, pos := "virtq.go:144", after := #[{ on := 8, ground := Go.Ground.data }], guard := none }) (v := ?_) rfl (by kernel_rfl) (fun _ _ _ h => h) (Or.inl ⟨by rfl, fun W hW => ?_⟩) hS ?_
    rotate_left
    · obtain ⟨hw', hw'', hw'''⟩ := hW; go_simp; (try go_bits); (try rw [if_pos (by omega)]); (try with_reducible rfl)
    (try simp only [Act.put, List.setIfInBounds_toArray, List.set_cons_succ, List.set_cons_zero])
    refine wpE_take (i := 10) (oi := { dst := some 26, op := Go.Op.move (Go.Operand.tmp 0), type := 30, pos := "virtq.go:144", after := #[], guard := none }) (v := ?_) rfl (by kernel_rfl) (fun _ _ _ h => h) (Or.inl ⟨by rfl, fun W hW => ?_⟩) hS ?_
    rotate_left
    · obtain ⟨hw', hw'', hw'''⟩ := hW; go_simp; (try go_bits); (try rw [if_pos (by omega)]); (try with_reducible rfl)
    (try simp only [Act.put, List.setIfInBounds_toArray, List.set_cons_succ, List.set_cons_zero])
    refine wpE_take (i := 11) (oi := { dst := some 27, op := Go.Op.nilCheck (Go.Operand.tmp 26), type := 0, pos := "virtq.go:144", after := #[{ on := 10, ground := Go.Ground.data }], guard := none }) (v := ?_) rfl (by kernel_rfl) (fun _ _ _ h => h) (Or.inl ⟨by rfl, fun W hW => ?_⟩) hS ?_
    rotate_left
    · obtain ⟨hw', hw'', hw'''⟩ := hW; go_simp; (try go_bits); (try rw [if_pos (by omega)]); (try with_reducible rfl)
    (try simp only [Act.put, List.setIfInBounds_toArray, List.set_cons_succ, List.set_cons_zero])
    refine wpE_take (i := 12) (oi := { dst := some 28, op := Go.Op.fieldAddr 82 (Go.Operand.tmp 27) 2, type := 0, pos := "virtq.go:144", after := #[{ on := 11, ground := Go.Ground.data }], guard := none }) (v := ?_) rfl (by kernel_rfl) (fun _ _ _ h => h) (Or.inl ⟨by rfl, fun W hW => ?_⟩) hS ?_
    rotate_left
    · obtain ⟨hw', hw'', hw'''⟩ := hW; go_simp; (try go_bits); (try rw [if_pos (by omega)]); (try with_reducible rfl)
    (try simp only [Act.put, List.setIfInBounds_toArray, List.set_cons_succ, List.set_cons_zero])
    refine wpE_take (i := 13) (oi := { dst := some 29, op := Go.Op.load 29 (Go.Operand.tmp 28), type := 29, pos := "virtq.go:144", after := #[{ on := 12, ground := Go.Ground.data }], guard := none }) (v := ?_) rfl (by kernel_rfl) (fun _ _ _ h => h) (Or.inl ⟨by rfl, fun W hW => ?_⟩) hS ?_
    rotate_left
    · obtain ⟨hw', hw'', hw'''⟩ := hW; go_simp; (try go_bits); (try rw [if_pos (by omega)]); (try with_reducible rfl)
    (try simp only [Act.put, List.setIfInBounds_toArray, List.set_cons_succ, List.set_cons_zero])
    refine wpE_take (i := 14) (oi := { dst := some 30, op := Go.Op.binOp Go.BinOp.rem 29 (Go.Operand.tmp 25) (Go.Operand.tmp 29) 29, type := 29, pos := "virtq.go:144", after := #[{ on := 9, ground := Go.Ground.data }, { on := 13, ground := Go.Ground.data }], guard := none }) (v := ?_) rfl (by kernel_rfl) (fun _ _ _ h => h) (Or.inl ⟨by rfl, fun W hW => ?_⟩) hS ?_
    rotate_left
    · obtain ⟨hw', hw'', hw'''⟩ := hW; go_simp; (try go_bits); (try rw [if_pos (by omega)]); (try with_reducible rfl)
    (try simp only [Act.put, List.setIfInBounds_toArray, List.set_cons_succ, List.set_cons_zero])
    refine wpE_take (i := 15) (oi := { dst := some 31, op := Go.Op.binOp Go.BinOp.mul 29 (Go.Operand.const (Go.Value.int Go.IntKind.u64 8)) (Go.Operand.tmp 30) 29, type := 29, pos := "virtq.go:144", after := #[{ on := 14, ground := Go.Ground.data }], guard := none }) (v := ?_) rfl (by kernel_rfl) (fun _ _ _ h => h) (Or.inl ⟨by rfl, fun W hW => ?_⟩) hS ?_
    rotate_left
    · obtain ⟨hw', hw'', hw'''⟩ := hW; go_simp; (try go_bits); (try rw [if_pos (by omega)]); (try with_reducible rfl)
    (try simp only [Act.put, List.setIfInBounds_toArray, List.set_cons_succ, List.set_cons_zero])
    refine wpE_take (i := 16) (oi := { dst := some 32, op := Go.Op.binOp Go.BinOp.add 29 (Go.Operand.tmp 20) (Go.Operand.tmp 31) 29, type := 29, pos := "virtq.go:144", after := #[{ on := 4, ground := Go.Ground.data }, { on := 15, ground := Go.Ground.data }], guard := none }) (v := ?_) rfl (by kernel_rfl) (fun _ _ _ h => h) (Or.inl ⟨by rfl, fun W hW => ?_⟩) hS ?_
    rotate_left
    · obtain ⟨hw', hw'', hw'''⟩ := hW; go_simp; (try go_bits); (try rw [if_pos (by omega)]); (try with_reducible rfl)
    (try simp only [Act.put, List.setIfInBounds_toArray, List.set_cons_succ, List.set_cons_zero])
    refine wpE_last (oi := { dst := some 10, op := Go.Op.assign (Go.Operand.tmp 32), type := 29, pos := "virtq.go:144", after := #[{ on := 16, ground := Go.Ground.data }, { on := 0, ground := Go.Ground.phase }, { on := 1, ground := Go.Ground.phase }, { on := 2, ground := Go.Ground.phase }, { on := 3, ground := Go.Ground.phase }, { on := 4, ground := Go.Ground.phase }, { on := 5, ground := Go.Ground.phase }, { on := 6, ground := Go.Ground.phase }, { on := 7, ground := Go.Ground.phase }, { on := 8, ground := Go.Ground.phase }, { on := 9, ground := Go.Ground.phase }, { on := 10, ground := Go.Ground.phase }, { on := 11, ground := Go.Ground.phase }, { on := 12, ground := Go.Ground.phase }, { on := 13, ground := Go.Ground.phase }, { on := 14, ground := Go.Ground.phase }, { on := 15, ground := Go.Ground.phase }, { on := 16, ground := Go.Ground.phase }], guard := none }) rfl (by kernel_rfl) (by kernel_rfl) (by rfl) (fun K hK => ?_)
    go_simp; (try go_bits); refine hK _ _ ?_; clear hK K
    clear hS
    clear ht hk1 hz hw2 hw3 hw4
    go_wp2_with fail
    have hnw := n_Write mp
    have hw5 : IntKind.u64.wrap ((A4 : Int) + 4) = (A4 : Int) + 4 := IntWalk.u64_in _ (by omega)
    have hw6 : IntKind.u64.wrap ((q.us : Int) + 2) = (q.us : Int) + 2 := IntWalk.u64_in _ (by omega)
    obtain ⟨G, hG⟩ : ∃ g, (q.gv + 1) % 65536 = g := ⟨_, rfl⟩
    have hGb : G < 65536 := by omega
    have hw7 : IntKind.u16.wrap ((q.gv : Int) + 1) = (G : Int) := by rw [u16w]; omega
    have hw8 : IntKind.u64.wrap (G : Int) = (G : Int) := IntWalk.u64_in _ (by omega)
    have hpq : pushQ base n m q H v = if hasR base n (A4 : Int) 4 = true then
      if hasR base n ((A4 : Int) + 4) 4 = true then
        if hasR base n ((q.us : Int) + 2) 2 = true then (0, wrR base n (wrR base n (wrR base n m (A4 : Int) 4 H) ((A4 : Int) + 4) 4 v) ((q.us : Int) + 2) 2 (G : Int), { q with gv := G })
        else (32, wrR base n (wrR base n m (A4 : Int) 4 H) ((A4 : Int) + 4) 4 v, { q with de := true })
      else (32, wrR base n m (A4 : Int) 4 H, { q with de := true })
    else (32, m, { q with de := true }) := by
      unfold pushQ
      rw [H0.out.2.2.2.1, if_pos HA.out.2.1, HA.out.1, hG]
    have HP := Lib.hid hpq
    clear hpq hG
    cases ho1 : hasR base n (A4 : Int) 4 with
    | false =>
      have HO1 := Lib.hid (show (okS 4 && hasR base n (A4 : Int) 4) = false by rw [ho1]; rfl)
      refine wpE_region (S := fun (W' : World) => W'.cell? ⟨p, 5, none⟩ = some (.int .u64 (q.us : Int)) ∧ W'.cell? ⟨p, 7, none⟩ = some (.int .u16 (q.gv : Int))) (s := 32) (by kernel_rfl) ?_
      have hS : (fun (W' : World) => W'.cell? ⟨p, 5, none⟩ = some (.int .u64 (q.us : Int)) ∧ W'.cell? ⟨p, 7, none⟩ = some (.int .u16 (q.gv : Int))) _ := ⟨c5, c7⟩
      refine wpE_take (i := 0) (oi := { dst := some 33, op := Go.Op.move (Go.Operand.tmp 1), type := 84, pos := "virtq.go:145", after := #[], guard := none }) (v := ?_) rfl (by kernel_rfl) (fun _ _ _ h => h) (Or.inl ⟨by rfl, fun W hW => ?_⟩) hS ?_
      rotate_left
      · obtain ⟨hw', hw''⟩ := hW; go_simp; (try go_bits); (try rw [if_pos (by omega)]); (try with_reducible rfl)
      (try simp only [Act.put, List.setIfInBounds_toArray, List.set_cons_succ, List.set_cons_zero])
      refine wpE_take (i := 1) (oi := { dst := some 34, op := Go.Op.move (Go.Operand.tmp 10), type := 29, pos := "virtq.go:145", after := #[], guard := none }) (v := ?_) rfl (by kernel_rfl) (fun _ _ _ h => h) (Or.inl ⟨by rfl, fun W hW => ?_⟩) hS ?_
      rotate_left
      · obtain ⟨hw', hw''⟩ := hW; go_simp; (try go_bits); (try rw [if_pos (by omega)]); (try with_reducible rfl)
      (try simp only [Act.put, List.setIfInBounds_toArray, List.set_cons_succ, List.set_cons_zero])
      refine wpE_take (i := 2) (oi := { dst := some 35, op := Go.Op.move (Go.Operand.tmp 2), type := 3, pos := "virtq.go:145", after := #[], guard := none }) (v := ?_) rfl (by kernel_rfl) (fun _ _ _ h => h) (Or.inl ⟨by rfl, fun W hW => ?_⟩) hS ?_
      rotate_left
      · obtain ⟨hw', hw''⟩ := hW; go_simp; (try go_bits); (try rw [if_pos (by omega)]); (try with_reducible rfl)
      (try simp only [Act.put, List.setIfInBounds_toArray, List.set_cons_succ, List.set_cons_zero])
      refine wpE_take (i := 3) (oi := { dst := some 36, op := Go.Op.convert 3 29 (Go.Operand.tmp 35), type := 29, pos := "virtq.go:145", after := #[{ on := 2, ground := Go.Ground.data }], guard := none }) (v := ?_) rfl (by kernel_rfl) (fun _ _ _ h => h) (Or.inl ⟨by rfl, fun W hW => ?_⟩) hS ?_
      rotate_left
      · obtain ⟨hw', hw''⟩ := hW; go_simp; (try go_bits); (try rw [if_pos (by omega)]); (try with_reducible rfl)
      (try simp only [Act.put, List.setIfInBounds_toArray, List.set_cons_succ, List.set_cons_zero])
      refine wpE_only (i := 4) (oi := { dst := some 37, op := Go.Op.call { callee := Go.Callee.invoke (Go.Operand.tmp 33) "Write", args := #[Go.Operand.tmp 34, Go.Operand.const (Go.Value.int Go.IntKind.i64 4), Go.Operand.tmp 36], argTypes := #[29, 3, 29] }, type := 4, pos := "virtq.go:145", after := #[{ on := 0, ground := Go.Ground.data }, { on := 1, ground := Go.Ground.data }, { on := 3, ground := Go.Ground.data }], guard := none }) rfl (by kernel_rfl) (by rfl) (fun K hK => ?_)
      go_simp; rw [m_Write]; simp only [Result.andThen]; rw [c_Write, Oper.upon_enter]
      refine (ram_Write (H0.out.2.1.step (Step.refl (fun _ => False) own wz).drew.drew (fun h => h)) (A4 : Int) 4 H (by omega) (by omega) (by decide) (by decide) (by omega) (by omega)).mono ?_
      rintro e w5 ⟨rfl, own5, hS5, hM5⟩
      rw [HO1.out]
      have hQ5 := ((show QAt own c wz.drew.drew p q from H0.out.1)).step hS5 (fun e => H0.out.2.2.2.2 e.symm)
      have hS : w5.cell? ⟨p, 5, none⟩ = some (.int .u64 (q.us : Int)) ∧ w5.cell? ⟨p, 7, none⟩ = some (.int .u16 (q.gv : Int)) := ⟨hQ5.cells.2.2.2.2.2.1, hQ5.cells.2.2.2.2.2.2.2⟩
      have HB5 := Lib.hid (And.intro hS5 (And.intro hQ5 hM5))
      clear hS5 hQ5 hM5
      refine hK _ _ hS ?_; clear hK K
      (try simp only [Act.put, List.setIfInBounds_toArray, List.set_cons_succ, List.set_cons_zero])
      refine wpE_take (i := 5) (oi := { dst := some 38, op := Go.Op.unOp Go.UnOp.not 4 (Go.Operand.tmp 37), type := 4, pos := "virtq.go:145", after := #[{ on := 4, ground := Go.Ground.data }], guard := none }) (v := ?_) rfl (by kernel_rfl) (fun _ _ _ h => h) (Or.inl ⟨by rfl, fun W hW => ?_⟩) hS ?_
      rotate_left
      · obtain ⟨hw', hw''⟩ := hW; go_simp; (try go_bits); (try rw [if_pos (by omega)]); (try with_reducible rfl)
      (try simp only [Act.put, List.setIfInBounds_toArray, List.set_cons_succ, List.set_cons_zero])
      refine wpE_take (i := 6) (oi := { dst := some 39, op := Go.Op.move (Go.Operand.tmp 38), type := 4, pos := "virtq.go:145", after := #[{ on := 5, ground := Go.Ground.data }, { on := 4, ground := Go.Ground.chain }], guard := none }) (v := ?_) rfl (by kernel_rfl) (fun _ _ _ h => h) (Or.inl ⟨by rfl, fun W hW => ?_⟩) hS ?_
      rotate_left
      · obtain ⟨hw', hw''⟩ := hW; go_simp; (try go_bits); (try rw [if_pos (by omega)]); (try with_reducible rfl)
      (try simp only [Act.put, List.setIfInBounds_toArray, List.set_cons_succ, List.set_cons_zero])
      refine wpE_take (i := 7) (oi := { dst := some 40, op := Go.Op.move (Go.Operand.tmp 1), type := 84, pos := "virtq.go:145", after := #[{ on := 6, ground := Go.Ground.guard }], guard := some (6, false) }) (v := undef) rfl (by kernel_rfl) (fun _ _ _ h => h) (Or.inr ⟨by rfl, rfl⟩) hS ?_
      (try simp only [Act.put, List.setIfInBounds_toArray, List.set_cons_succ, List.set_cons_zero])
      refine wpE_take (i := 8) (oi := { dst := some 41, op := Go.Op.move (Go.Operand.tmp 10), type := 29, pos := "virtq.go:145", after := #[{ on := 6, ground := Go.Ground.guard }], guard := some (6, false) }) (v := undef) rfl (by kernel_rfl) (fun _ _ _ h => h) (Or.inr ⟨by rfl, rfl⟩) hS ?_
      (try simp only [Act.put, List.setIfInBounds_toArray, List.set_cons_succ, List.set_cons_zero])
      refine wpE_take (i := 9) (oi := { dst := some 42, op := Go.Op.binOp Go.BinOp.add 29 (Go.Operand.tmp 41) (Go.Operand.const (Go.Value.int Go.IntKind.u64 4)) 29, type := 29, pos := "virtq.go:145", after := #[{ on := 8, ground := Go.Ground.data }, { on := 6, ground := Go.Ground.guard }], guard := some (6, false) }) (v := undef) rfl (by kernel_rfl) (fun _ _ _ h => h) (Or.inr ⟨by rfl, rfl⟩) hS ?_
      (try simp only [Act.put, List.setIfInBounds_toArray, List.set_cons_succ, List.set_cons_zero])
      refine wpE_take (i := 10) (oi := { dst := some 43, op := Go.Op.move (Go.Operand.tmp 3), type := 29, pos := "virtq.go:145", after := #[{ on := 6, ground := Go.Ground.guard }], guard := some (6, false) }) (v := undef) rfl (by kernel_rfl) (fun _ _ _ h => h) (Or.inr ⟨by rfl, rfl⟩) hS ?_
      (try simp only [Act.put, List.setIfInBounds_toArray, List.set_cons_succ, List.set_cons_zero])
      refine wpE_take (i := 11) (oi := { dst := some 44, op := Go.Op.call { callee := Go.Callee.invoke (Go.Operand.tmp 40) "Write", args := #[Go.Operand.tmp 42, Go.Operand.const (Go.Value.int Go.IntKind.i64 4), Go.Operand.tmp 43], argTypes := #[29, 3, 29] }, type := 4, pos := "virtq.go:145", after := #[{ on := 7, ground := Go.Ground.data }, { on := 9, ground := Go.Ground.data }, { on := 10, ground := Go.Ground.data }, { on := 6, ground := Go.Ground.chain }, { on := 6, ground := Go.Ground.guard }], guard := some (6, false) }) (v := undef) rfl (by kernel_rfl) (fun _ _ _ h => h) (Or.inr ⟨by rfl, rfl⟩) hS ?_
      (try simp only [Act.put, List.setIfInBounds_toArray, List.set_cons_succ, List.set_cons_zero])
      refine wpE_take (i := 12) (oi := { dst := some 45, op := Go.Op.unOp Go.UnOp.not 4 (Go.Operand.tmp 44), type := 4, pos := "virtq.go:145", after := #[{ on := 11, ground := Go.Ground.data }, { on := 6, ground := Go.Ground.guard }], guard := some (6, false) }) (v := undef) rfl (by kernel_rfl) (fun _ _ _ h => h) (Or.inr ⟨by rfl, rfl⟩) hS ?_
      (try simp only [Act.put, List.setIfInBounds_toArray, List.set_cons_succ, List.set_cons_zero])
      refine wpE_take (i := 13) (oi := { dst := some 46, op := Go.Op.pick (Go.Operand.tmp 39) (Go.Operand.const (Go.Value.bool true)) (Go.Operand.tmp 45), type := 4, pos := "virtq.go:145", after := #[{ on := 6, ground := Go.Ground.data }, { on := 12, ground := Go.Ground.data }], guard := none }) (v := ?_) rfl (by kernel_rfl) (fun _ _ _ h => h) (Or.inl ⟨by rfl, fun W hW => ?_⟩) hS ?_
      rotate_left
      · obtain ⟨hw', hw''⟩ := hW; go_simp; (try go_bits); (try rw [if_pos (by omega)]); (try with_reducible rfl)
      (try simp only [Act.put, List.setIfInBounds_toArray, List.set_cons_succ, List.set_cons_zero])
      refine wpE_take (i := 14) (oi := { dst := some 47, op := Go.Op.move (Go.Operand.tmp 46), type := 4, pos := "virtq.go:145", after := #[{ on := 13, ground := Go.Ground.data }, { on := 11, ground := Go.Ground.chain }], guard := none }) (v := ?_) rfl (by kernel_rfl) (fun _ _ _ h => h) (Or.inl ⟨by rfl, fun W hW => ?_⟩) hS ?_
      rotate_left
      · obtain ⟨hw', hw''⟩ := hW; go_simp; (try go_bits); (try rw [if_pos (by omega)]); (try with_reducible rfl)
      (try simp only [Act.put, List.setIfInBounds_toArray, List.set_cons_succ, List.set_cons_zero])
      refine wpE_take (i := 15) (oi := { dst := some 48, op := Go.Op.move (Go.Operand.tmp 1), type := 84, pos := "virtq.go:145", after := #[{ on := 14, ground := Go.Ground.guard }], guard := some (14, false) }) (v := undef) rfl (by kernel_rfl) (fun _ _ _ h => h) (Or.inr ⟨by rfl, rfl⟩) hS ?_
      (try simp only [Act.put, List.setIfInBounds_toArray, List.set_cons_succ, List.set_cons_zero])
      refine wpE_take (i := 16) (oi := { dst := some 49, op := Go.Op.move (Go.Operand.tmp 0), type := 30, pos := "virtq.go:145", after := #[{ on := 14, ground := Go.Ground.guard }], guard := some (14, false) }) (v := undef) rfl (by kernel_rfl) (fun _ _ _ h => h) (Or.inr ⟨by rfl, rfl⟩) hS ?_
      (try simp only [Act.put, List.setIfInBounds_toArray, List.set_cons_succ, List.set_cons_zero])
      refine wpE_take (i := 17) (oi := { dst := some 50, op := Go.Op.nilCheck (Go.Operand.tmp 49), type := 0, pos := "virtq.go:145", after := #[{ on := 16, ground := Go.Ground.data }, { on := 14, ground := Go.Ground.guard }], guard := some (14, false) }) (v := undef) rfl (by kernel_rfl) (fun _ _ _ h => h) (Or.inr ⟨by rfl, rfl⟩) hS ?_
      (try simp only [Act.put, List.setIfInBounds_toArray, List.set_cons_succ, List.set_cons_zero])
      refine wpE_take (i := 18) (oi := { dst := some 51, op := Go.Op.fieldAddr 82 (Go.Operand.tmp 50) 5, type := 0, pos := "virtq.go:145", after := #[{ on := 17, ground := Go.Ground.data }, { on := 14, ground := Go.Ground.guard }], guard := some (14, false) }) (v := undef) rfl (by kernel_rfl) (fun _ _ _ h => h) (Or.inr ⟨by rfl, rfl⟩) hS ?_
      (try simp only [Act.put, List.setIfInBounds_toArray, List.set_cons_succ, List.set_cons_zero])
      refine wpE_take (i := 19) (oi := { dst := some 52, op := Go.Op.load 29 (Go.Operand.tmp 51), type := 29, pos := "virtq.go:145", after := #[{ on := 18, ground := Go.Ground.data }, { on := 14, ground := Go.Ground.guard }], guard := some (14, false) }) (v := undef) rfl (by kernel_rfl) (fun _ _ _ h => h) (Or.inr ⟨by rfl, rfl⟩) hS ?_
      (try simp only [Act.put, List.setIfInBounds_toArray, List.set_cons_succ, List.set_cons_zero])
      refine wpE_take (i := 20) (oi := { dst := some 53, op := Go.Op.binOp Go.BinOp.add 29 (Go.Operand.tmp 52) (Go.Operand.const (Go.Value.int Go.IntKind.u64 2)) 29, type := 29, pos := "virtq.go:145", after := #[{ on := 19, ground := Go.Ground.data }, { on := 14, ground := Go.Ground.guard }], guard := some (14, false) }) (v := undef) rfl (by kernel_rfl) (fun _ _ _ h => h) (Or.inr ⟨by rfl, rfl⟩) hS ?_
      (try simp only [Act.put, List.setIfInBounds_toArray, List.set_cons_succ, List.set_cons_zero])
      refine wpE_take (i := 21) (oi := { dst := some 54, op := Go.Op.move (Go.Operand.tmp 0), type := 30, pos := "virtq.go:145", after := #[{ on := 14, ground := Go.Ground.guard }], guard := some (14, false) }) (v := undef) rfl (by kernel_rfl) (fun _ _ _ h => h) (Or.inr ⟨by rfl, rfl⟩) hS ?_
      (try simp only [Act.put, List.setIfInBounds_toArray, List.set_cons_succ, List.set_cons_zero])
      refine wpE_take (i := 22) (oi := { dst := some 55, op := Go.Op.nilCheck (Go.Operand.tmp 54), type := 0, pos := "virtq.go:145", after := #[{ on := 21, ground := Go.Ground.data }, { on := 14, ground := Go.Ground.guard }], guard := some (14, false) }) (v := undef) rfl (by kernel_rfl) (fun _ _ _ h => h) (Or.inr ⟨by rfl, rfl⟩) hS ?_
      (try simp only [Act.put, List.setIfInBounds_toArray, List.set_cons_succ, List.set_cons_zero])
      refine wpE_take (i := 23) (oi := { dst := some 56, op := Go.Op.fieldAddr 82 (Go.Operand.tmp 55) 7, type := 0, pos := "virtq.go:145", after := #[{ on := 22, ground := Go.Ground.data }, { on := 14, ground := Go.Ground.guard }], guard := some (14, false) }) (v := undef) rfl (by kernel_rfl) (fun _ _ _ h => h) (Or.inr ⟨by rfl, rfl⟩) hS ?_
      (try simp only [Act.put, List.setIfInBounds_toArray, List.set_cons_succ, List.set_cons_zero])
      refine wpE_take (i := 24) (oi := { dst := some 57, op := Go.Op.load 80 (Go.Operand.tmp 56), type := 80, pos := "virtq.go:145", after := #[{ on := 23, ground := Go.Ground.data }, { on := 14, ground := Go.Ground.guard }], guard := some (14, false) }) (v := undef) rfl (by kernel_rfl) (fun _ _ _ h => h) (Or.inr ⟨by rfl, rfl⟩) hS ?_
      (try simp only [Act.put, List.setIfInBounds_toArray, List.set_cons_succ, List.set_cons_zero])
      refine wpE_take (i := 25) (oi := { dst := some 58, op := Go.Op.binOp Go.BinOp.add 80 (Go.Operand.tmp 57) (Go.Operand.const (Go.Value.int Go.IntKind.u16 1)) 80, type := 80, pos := "virtq.go:145", after := #[{ on := 24, ground := Go.Ground.data }, { on := 14, ground := Go.Ground.guard }], guard := some (14, false) }) (v := undef) rfl (by kernel_rfl) (fun _ _ _ h => h) (Or.inr ⟨by rfl, rfl⟩) hS ?_
      (try simp only [Act.put, List.setIfInBounds_toArray, List.set_cons_succ, List.set_cons_zero])
      refine wpE_take (i := 26) (oi := { dst := some 59, op := Go.Op.convert 80 29 (Go.Operand.tmp 58), type := 29, pos := "virtq.go:145", after := #[{ on := 25, ground := Go.Ground.data }, { on := 14, ground := Go.Ground.guard }], guard := some (14, false) }) (v := undef) rfl (by kernel_rfl) (fun _ _ _ h => h) (Or.inr ⟨by rfl, rfl⟩) hS ?_
      (try simp only [Act.put, List.setIfInBounds_toArray, List.set_cons_succ, List.set_cons_zero])
      refine wpE_take (i := 27) (oi := { dst := some 60, op := Go.Op.makeFunc (Go.Fn.method "Write") #[Go.Operand.tmp 48] #[], type := 53, pos := "virtq.go:145", after := #[{ on := 15, ground := Go.Ground.data }, { on := 14, ground := Go.Ground.guard }], guard := some (14, false) }) (v := undef) rfl (by kernel_rfl) (fun _ _ _ h => h) (Or.inr ⟨by rfl, rfl⟩) hS ?_
      (try simp only [Act.put, List.setIfInBounds_toArray, List.set_cons_succ, List.set_cons_zero])
      refine wpE_take (i := 28) (oi := { dst := some 61, op := Go.Op.nilCheck (Go.Operand.tmp 60), type := 53, pos := "virtq.go:145", after := #[{ on := 27, ground := Go.Ground.data }, { on := 14, ground := Go.Ground.guard }], guard := some (14, false) }) (v := undef) rfl (by kernel_rfl) (fun _ _ _ h => h) (Or.inr ⟨by rfl, rfl⟩) hS ?_
      (try simp only [Act.put, List.setIfInBounds_toArray, List.set_cons_succ, List.set_cons_zero])
      refine wpE_take (i := 29) (oi := { dst := some 62, op := Go.Op.move (Go.Operand.tmp 48), type := 84, pos := "virtq.go:145", after := #[{ on := 15, ground := Go.Ground.data }, { on := 14, ground := Go.Ground.guard }, { on := 27, ground := Go.Ground.data }, { on := 28, ground := Go.Ground.data }], guard := some (14, false) }) (v := undef) rfl (by kernel_rfl) (fun _ _ _ h => h) (Or.inr ⟨by rfl, rfl⟩) hS ?_
      (try simp only [Act.put, List.setIfInBounds_toArray, List.set_cons_succ, List.set_cons_zero])
      refine wpE_take (i := 30) (oi := { dst := some 63, op := Go.Op.call { callee := Go.Callee.invoke (Go.Operand.tmp 62) "Write", args := #[Go.Operand.tmp 53, Go.Operand.const (Go.Value.int Go.IntKind.i64 2), Go.Operand.tmp 59], argTypes := #[29, 3, 29] }, type := 4, pos := "virtq.go:145", after := #[{ on := 29, ground := Go.Ground.data }, { on := 20, ground := Go.Ground.data }, { on := 26, ground := Go.Ground.data }, { on := 14, ground := Go.Ground.chain }, { on := 14, ground := Go.Ground.guard }], guard := some (14, false) }) (v := undef) rfl (by kernel_rfl) (fun _ _ _ h => h) (Or.inr ⟨by rfl, rfl⟩) hS ?_
      (try simp only [Act.put, List.setIfInBounds_toArray, List.set_cons_succ, List.set_cons_zero])
      refine wpE_take (i := 31) (oi := { dst := some 64, op := Go.Op.unOp Go.UnOp.not 4 (Go.Operand.tmp 63), type := 4, pos := "virtq.go:145", after := #[{ on := 30, ground := Go.Ground.data }, { on := 14, ground := Go.Ground.guard }], guard := some (14, false) }) (v := undef) rfl (by kernel_rfl) (fun _ _ _ h => h) (Or.inr ⟨by rfl, rfl⟩) hS ?_
      (try simp only [Act.put, List.setIfInBounds_toArray, List.set_cons_succ, List.set_cons_zero])
      refine wpE_last (oi := { dst := some 65, op := Go.Op.pick (Go.Operand.tmp 47) (Go.Operand.const (Go.Value.bool true)) (Go.Operand.tmp 64), type := 4, pos := "virtq.go:145", after := #[{ on := 14, ground := Go.Ground.data }, { on := 31, ground := Go.Ground.data }], guard := none }) rfl (by kernel_rfl) (by kernel_rfl) (by rfl) (fun K hK => ?_)
      go_simp; (try go_bits); refine hK _ _ ?_; clear hK K
      clear hS
      have hput := HB5.out.2.1.putDe true
      have c1' := HB5.out.2.1.cells.2.1
      have z1' := HB5.out.2.1.frz.2.1
      have hM' := HB5.out.2.2.step hput.2 (fun e => H0.out.2.2.2.2 e)
      rw [wrR_no ho1] at hM'
      have HE := Lib.hid (And.intro (show pushQ base n m q H v = (32, m, { q with de := true }) by rw [HP.out, ho1]; rfl) (And.intro (((((Step.refl (fun _ => False) own wz).drew.drew).mono (C' := fun x => x = c ∨ x = cm) (fun _ h => h.elim)).trans (HB5.out.1.mono (fun _ h => .inr h))).trans (hput.2.mono (C' := fun x => x = c ∨ x = cm) (fun _ h => .inl h))) (And.intro hput.1 hM')))
      clear hput hM' c1 c2 c5 c7
      go_wp2
      go_ret
      rw [HE.out.1]
      exact ⟨rfl, own5, HE.out.2.1, HE.out.2.2.1, HE.out.2.2.2⟩
    | true =>
      have HO1 := Lib.hid (show (okS 4 && hasR base n (A4 : Int) 4) = true by rw [ho1]; rfl)
      cases ho2 : hasR base n ((A4 : Int) + 4) 4 with
      | false =>
        have HO2 := Lib.hid (show (okS 4 && hasR base n ((A4 : Int) + 4) 4) = false by rw [ho2]; rfl)
        refine wpE_region (S := fun (W' : World) => W'.cell? ⟨p, 5, none⟩ = some (.int .u64 (q.us : Int)) ∧ W'.cell? ⟨p, 7, none⟩ = some (.int .u16 (q.gv : Int))) (s := 32) (by kernel_rfl) ?_
        have hS : (fun (W' : World) => W'.cell? ⟨p, 5, none⟩ = some (.int .u64 (q.us : Int)) ∧ W'.cell? ⟨p, 7, none⟩ = some (.int .u16 (q.gv : Int))) _ := ⟨c5, c7⟩
        refine wpE_take (i := 0) (oi := { dst := some 33, op := Go.Op.move (Go.Operand.tmp 1), type := 84, pos := "virtq.go:145", after := #[], guard := none }) (v := ?_) rfl (by kernel_rfl) (fun _ _ _ h => h) (Or.inl ⟨by rfl, fun W hW => ?_⟩) hS ?_
        rotate_left
        · obtain ⟨hw', hw''⟩ := hW; go_simp; (try go_bits); (try rw [if_pos (by omega)]); (try with_reducible rfl)
        (try simp only [Act.put, List.setIfInBounds_toArray, List.set_cons_succ, List.set_cons_zero])
        refine wpE_take (i := 1) (oi := { dst := some 34, op := Go.Op.move (Go.Operand.tmp 10), type := 29, pos := "virtq.go:145", after := #[], guard := none }) (v := ?_) rfl (by kernel_rfl) (fun _ _ _ h => h) (Or.inl ⟨by rfl, fun W hW => ?_⟩) hS ?_
        rotate_left
        · obtain ⟨hw', hw''⟩ := hW; go_simp; (try go_bits); (try rw [if_pos (by omega)]); (try with_reducible rfl)
        (try simp only [Act.put, List.setIfInBounds_toArray, List.set_cons_succ, List.set_cons_zero])
        refine wpE_take (i := 2) (oi := { dst := some 35, op := Go.Op.move (Go.Operand.tmp 2), type := 3, pos := "virtq.go:145", after := #[], guard := none }) (v := ?_) rfl (by kernel_rfl) (fun _ _ _ h => h) (Or.inl ⟨by rfl, fun W hW => ?_⟩) hS ?_
        rotate_left
        · obtain ⟨hw', hw''⟩ := hW; go_simp; (try go_bits); (try rw [if_pos (by omega)]); (try with_reducible rfl)
        (try simp only [Act.put, List.setIfInBounds_toArray, List.set_cons_succ, List.set_cons_zero])
        refine wpE_take (i := 3) (oi := { dst := some 36, op := Go.Op.convert 3 29 (Go.Operand.tmp 35), type := 29, pos := "virtq.go:145", after := #[{ on := 2, ground := Go.Ground.data }], guard := none }) (v := ?_) rfl (by kernel_rfl) (fun _ _ _ h => h) (Or.inl ⟨by rfl, fun W hW => ?_⟩) hS ?_
        rotate_left
        · obtain ⟨hw', hw''⟩ := hW; go_simp; (try go_bits); (try rw [if_pos (by omega)]); (try with_reducible rfl)
        (try simp only [Act.put, List.setIfInBounds_toArray, List.set_cons_succ, List.set_cons_zero])
        refine wpE_only (i := 4) (oi := { dst := some 37, op := Go.Op.call { callee := Go.Callee.invoke (Go.Operand.tmp 33) "Write", args := #[Go.Operand.tmp 34, Go.Operand.const (Go.Value.int Go.IntKind.i64 4), Go.Operand.tmp 36], argTypes := #[29, 3, 29] }, type := 4, pos := "virtq.go:145", after := #[{ on := 0, ground := Go.Ground.data }, { on := 1, ground := Go.Ground.data }, { on := 3, ground := Go.Ground.data }], guard := none }) rfl (by kernel_rfl) (by rfl) (fun K hK => ?_)
        go_simp; rw [m_Write]; simp only [Result.andThen]; rw [c_Write, Oper.upon_enter]
        refine (ram_Write (H0.out.2.1.step (Step.refl (fun _ => False) own wz).drew.drew (fun h => h)) (A4 : Int) 4 H (by omega) (by omega) (by decide) (by decide) (by omega) (by omega)).mono ?_
        rintro e w5 ⟨rfl, own5, hS5, hM5⟩
        rw [HO1.out]
        have hQ5 := ((show QAt own c wz.drew.drew p q from H0.out.1)).step hS5 (fun e => H0.out.2.2.2.2 e.symm)
        have hS : w5.cell? ⟨p, 5, none⟩ = some (.int .u64 (q.us : Int)) ∧ w5.cell? ⟨p, 7, none⟩ = some (.int .u16 (q.gv : Int)) := ⟨hQ5.cells.2.2.2.2.2.1, hQ5.cells.2.2.2.2.2.2.2⟩
        have HB5 := Lib.hid (And.intro hS5 (And.intro hQ5 hM5))
        clear hS5 hQ5 hM5
        refine hK _ _ hS ?_; clear hK K
        (try simp only [Act.put, List.setIfInBounds_toArray, List.set_cons_succ, List.set_cons_zero])
        refine wpE_take (i := 5) (oi := { dst := some 38, op := Go.Op.unOp Go.UnOp.not 4 (Go.Operand.tmp 37), type := 4, pos := "virtq.go:145", after := #[{ on := 4, ground := Go.Ground.data }], guard := none }) (v := ?_) rfl (by kernel_rfl) (fun _ _ _ h => h) (Or.inl ⟨by rfl, fun W hW => ?_⟩) hS ?_
        rotate_left
        · obtain ⟨hw', hw''⟩ := hW; go_simp; (try go_bits); (try rw [if_pos (by omega)]); (try with_reducible rfl)
        (try simp only [Act.put, List.setIfInBounds_toArray, List.set_cons_succ, List.set_cons_zero])
        refine wpE_take (i := 6) (oi := { dst := some 39, op := Go.Op.move (Go.Operand.tmp 38), type := 4, pos := "virtq.go:145", after := #[{ on := 5, ground := Go.Ground.data }, { on := 4, ground := Go.Ground.chain }], guard := none }) (v := ?_) rfl (by kernel_rfl) (fun _ _ _ h => h) (Or.inl ⟨by rfl, fun W hW => ?_⟩) hS ?_
        rotate_left
        · obtain ⟨hw', hw''⟩ := hW; go_simp; (try go_bits); (try rw [if_pos (by omega)]); (try with_reducible rfl)
        (try simp only [Act.put, List.setIfInBounds_toArray, List.set_cons_succ, List.set_cons_zero])
        refine wpE_take (i := 7) (oi := { dst := some 40, op := Go.Op.move (Go.Operand.tmp 1), type := 84, pos := "virtq.go:145", after := #[{ on := 6, ground := Go.Ground.guard }], guard := some (6, false) }) (v := ?_) rfl (by kernel_rfl) (fun _ _ _ h => h) (Or.inl ⟨by rfl, fun W hW => ?_⟩) hS ?_
        rotate_left
        · obtain ⟨hw', hw''⟩ := hW; go_simp; (try go_bits); (try rw [if_pos (by omega)]); (try with_reducible rfl)
        (try simp only [Act.put, List.setIfInBounds_toArray, List.set_cons_succ, List.set_cons_zero])
        refine wpE_take (i := 8) (oi := { dst := some 41, op := Go.Op.move (Go.Operand.tmp 10), type := 29, pos := "virtq.go:145", after := #[{ on := 6, ground := Go.Ground.guard }], guard := some (6, false) }) (v := ?_) rfl (by kernel_rfl) (fun _ _ _ h => h) (Or.inl ⟨by rfl, fun W hW => ?_⟩) hS ?_
        rotate_left
        · obtain ⟨hw', hw''⟩ := hW; go_simp; (try go_bits); (try rw [if_pos (by omega)]); (try with_reducible rfl)
        (try simp only [Act.put, List.setIfInBounds_toArray, List.set_cons_succ, List.set_cons_zero])
        refine wpE_take (i := 9) (oi := { dst := some 42, op := Go.Op.binOp Go.BinOp.add 29 (Go.Operand.tmp 41) (Go.Operand.const (Go.Value.int Go.IntKind.u64 4)) 29, type := 29, pos := "virtq.go:145", after := #[{ on := 8, ground := Go.Ground.data }, { on := 6, ground := Go.Ground.guard }], guard := some (6, false) }) (v := ?_) rfl (by kernel_rfl) (fun _ _ _ h => h) (Or.inl ⟨by rfl, fun W hW => ?_⟩) hS ?_
        rotate_left
        · obtain ⟨hw', hw''⟩ := hW; go_simp; (try go_bits); (try rw [if_pos (by omega)]); (try with_reducible rfl)
        (try simp only [Act.put, List.setIfInBounds_toArray, List.set_cons_succ, List.set_cons_zero])
        refine wpE_take (i := 10) (oi := { dst := some 43, op := Go.Op.move (Go.Operand.tmp 3), type := 29, pos := "virtq.go:145", after := #[{ on := 6, ground := Go.Ground.guard }], guard := some (6, false) }) (v := ?_) rfl (by kernel_rfl) (fun _ _ _ h => h) (Or.inl ⟨by rfl, fun W hW => ?_⟩) hS ?_
        rotate_left
        · obtain ⟨hw', hw''⟩ := hW; go_simp; (try go_bits); (try rw [if_pos (by omega)]); (try with_reducible rfl)
        (try simp only [Act.put, List.setIfInBounds_toArray, List.set_cons_succ, List.set_cons_zero])
        refine wpE_only (i := 11) (oi := { dst := some 44, op := Go.Op.call { callee := Go.Callee.invoke (Go.Operand.tmp 40) "Write", args := #[Go.Operand.tmp 42, Go.Operand.const (Go.Value.int Go.IntKind.i64 4), Go.Operand.tmp 43], argTypes := #[29, 3, 29] }, type := 4, pos := "virtq.go:145", after := #[{ on := 7, ground := Go.Ground.data }, { on := 9, ground := Go.Ground.data }, { on := 10, ground := Go.Ground.data }, { on := 6, ground := Go.Ground.chain }, { on := 6, ground := Go.Ground.guard }], guard := some (6, false) }) rfl (by kernel_rfl) (by rfl) (fun K hK => ?_)
        go_simp; rw [m_Write]; simp only [Result.andThen]; rw [c_Write, Oper.upon_enter]
        refine (ram_Write HB5.out.2.2 ((A4 : Int) + 4) 4 v (by omega) (by omega) (by decide) (by decide) (by omega) (by omega)).mono ?_
        rintro e w6 ⟨rfl, own6, hS6, hM6⟩
        rw [HO2.out]
        have hQ6 := (HB5.out.2.1).step hS6 (fun e => H0.out.2.2.2.2 e.symm)
        have hS : w6.cell? ⟨p, 5, none⟩ = some (.int .u64 (q.us : Int)) ∧ w6.cell? ⟨p, 7, none⟩ = some (.int .u16 (q.gv : Int)) := ⟨hQ6.cells.2.2.2.2.2.1, hQ6.cells.2.2.2.2.2.2.2⟩
        have HB6 := Lib.hid (And.intro hS6 (And.intro hQ6 hM6))
        clear hS6 hQ6 hM6
        refine hK _ _ hS ?_; clear hK K
        (try simp only [Act.put, List.setIfInBounds_toArray, List.set_cons_succ, List.set_cons_zero])
        refine wpE_take (i := 12) (oi := { dst := some 45, op := Go.Op.unOp Go.UnOp.not 4 (Go.Operand.tmp 44), type := 4, pos := "virtq.go:145", after := #[{ on := 11, ground := Go.Ground.data }, { on := 6, ground := Go.Ground.guard }], guard := some (6, false) }) (v := ?_) rfl (by kernel_rfl) (fun _ _ _ h => h) (Or.inl ⟨by rfl, fun W hW => ?_⟩) hS ?_
        rotate_left
        · obtain ⟨hw', hw''⟩ := hW; go_simp; (try go_bits); (try rw [if_pos (by omega)]); (try with_reducible rfl)
        (try simp only [Act.put, List.setIfInBounds_toArray, List.set_cons_succ, List.set_cons_zero])
        refine wpE_take (i := 13) (oi := { dst := some 46, op := Go.Op.pick (Go.Operand.tmp 39) (Go.Operand.const (Go.Value.bool true)) (Go.Operand.tmp 45), type := 4, pos := "virtq.go:145", after := #[{ on := 6, ground := Go.Ground.data }, { on := 12, ground := Go.Ground.data }], guard := none }) (v := ?_) rfl (by kernel_rfl) (fun _ _ _ h => h) (Or.inl ⟨by rfl, fun W hW => ?_⟩) hS ?_
        rotate_left
        · obtain ⟨hw', hw''⟩ := hW; go_simp; (try go_bits); (try rw [if_pos (by omega)]); (try with_reducible rfl)
        (try simp only [Act.put, List.setIfInBounds_toArray, List.set_cons_succ, List.set_cons_zero])
        refine wpE_take (i := 14) (oi := { dst := some 47, op := Go.Op.move (Go.Operand.tmp 46), type := 4, pos := "virtq.go:145", after := #[{ on := 13, ground := Go.Ground.data }, { on := 11, ground := Go.Ground.chain }], guard := none }) (v := ?_) rfl (by kernel_rfl) (fun _ _ _ h => h) (Or.inl ⟨by rfl, fun W hW => ?_⟩) hS ?_
        rotate_left
        · obtain ⟨hw', hw''⟩ := hW; go_simp; (try go_bits); (try rw [if_pos (by omega)]); (try with_reducible rfl)
        (try simp only [Act.put, List.setIfInBounds_toArray, List.set_cons_succ, List.set_cons_zero])
        refine wpE_take (i := 15) (oi := { dst := some 48, op := Go.Op.move (Go.Operand.tmp 1), type := 84, pos := "virtq.go:145", after := #[{ on := 14, ground := Go.Ground.guard }], guard := some (14, false) }) (v := undef) rfl (by kernel_rfl) (fun _ _ _ h => h) (Or.inr ⟨by rfl, rfl⟩) hS ?_
        (try simp only [Act.put, List.setIfInBounds_toArray, List.set_cons_succ, List.set_cons_zero])
        refine wpE_take (i := 16) (oi := { dst := some 49, op := Go.Op.move (Go.Operand.tmp 0), type := 30, pos := "virtq.go:145", after := #[{ on := 14, ground := Go.Ground.guard }], guard := some (14, false) }) (v := undef) rfl (by kernel_rfl) (fun _ _ _ h => h) (Or.inr ⟨by rfl, rfl⟩) hS ?_
        (try simp only [Act.put, List.setIfInBounds_toArray, List.set_cons_succ, List.set_cons_zero])
        refine wpE_take (i := 17) (oi := { dst := some 50, op := Go.Op.nilCheck (Go.Operand.tmp 49), type := 0, pos := "virtq.go:145", after := #[{ on := 16, ground := Go.Ground.data }, { on := 14, ground := Go.Ground.guard }], guard := some (14, false) }) (v := undef) rfl (by kernel_rfl) (fun _ _ _ h => h) (Or.inr ⟨by rfl, rfl⟩) hS ?_
        (try simp only [Act.put, List.setIfInBounds_toArray, List.set_cons_succ, List.set_cons_zero])
        refine wpE_take (i := 18) (oi := { dst := some 51, op := Go.Op.fieldAddr 82 (Go.Operand.tmp 50) 5, type := 0, pos := "virtq.go:145", after := #[{ on := 17, ground := Go.Ground.data }, { on := 14, ground := Go.Ground.guard }], guard := some (14, false) }) (v := undef) rfl (by kernel_rfl) (fun _ _ _ h => h) (Or.inr ⟨by rfl, rfl⟩) hS ?_
        (try simp only [Act.put, List.setIfInBounds_toArray, List.set_cons_succ, List.set_cons_zero])
        refine wpE_take (i := 19) (oi := { dst := some 52, op := Go.Op.load 29 (Go.Operand.tmp 51), type := 29, pos := "virtq.go:145", after := #[{ on := 18, ground := Go.Ground.data }, { on := 14, ground := Go.Ground.guard }], guard := some (14, false) }) (v := undef) rfl (by kernel_rfl) (fun _ _ _ h => h) (Or.inr ⟨by rfl, rfl⟩) hS ?_
        (try simp only [Act.put, List.setIfInBounds_toArray, List.set_cons_succ, List.set_cons_zero])
        refine wpE_take (i := 20) (oi := { dst := some 53, op := Go.Op.binOp Go.BinOp.add 29 (Go.Operand.tmp 52) (Go.Operand.const (Go.Value.int Go.IntKind.u64 2)) 29, type := 29, pos := "virtq.go:145", after := #[{ on := 19, ground := Go.Ground.data }, { on := 14, ground := Go.Ground.guard }], guard := some (14, false) }) (v := undef) rfl (by kernel_rfl) (fun _ _ _ h => h) (Or.inr ⟨by rfl, rfl⟩) hS ?_
        (try simp only [Act.put, List.setIfInBounds_toArray, List.set_cons_succ, List.set_cons_zero])
        refine wpE_take (i := 21) (oi := { dst := some 54, op := Go.Op.move (Go.Operand.tmp 0), type := 30, pos := "virtq.go:145", after := #[{ on := 14, ground := Go.Ground.guard }], guard := some (14, false) }) (v := undef) rfl (by kernel_rfl) (fun _ _ _ h => h) (Or.inr ⟨by rfl, rfl⟩) hS ?_
        (try simp only [Act.put, List.setIfInBounds_toArray, List.set_cons_succ, List.set_cons_zero])
        refine wpE_take (i := 22) (oi := { dst := some 55, op := Go.Op.nilCheck (Go.Operand.tmp 54), type := 0, pos := "virtq.go:145", after := #[{ on := 21, ground := Go.Ground.data }, { on := 14, ground := Go.Ground.guard }], guard := some (14, false) }) (v := undef) rfl (by kernel_rfl) (fun _ _ _ h => h) (Or.inr ⟨by rfl, rfl⟩) hS ?_
        (try simp only [Act.put, List.setIfInBounds_toArray, List.set_cons_succ, List.set_cons_zero])
        refine wpE_take (i := 23) (oi := { dst := some 56, op := Go.Op.fieldAddr 82 (Go.Operand.tmp 55) 7, type := 0, pos := "virtq.go:145", after := #[{ on := 22, ground := Go.Ground.data }, { on := 14, ground := Go.Ground.guard }], guard := some (14, false) }) (v := undef) rfl (by kernel_rfl) (fun _ _ _ h => h) (Or.inr ⟨by rfl, rfl⟩) hS ?_
        (try simp only [Act.put, List.setIfInBounds_toArray, List.set_cons_succ, List.set_cons_zero])
        refine wpE_take (i := 24) (oi := { dst := some 57, op := Go.Op.load 80 (Go.Operand.tmp 56), type := 80, pos := "virtq.go:145", after := #[{ on := 23, ground := Go.Ground.data }, { on := 14, ground := Go.Ground.guard }], guard := some (14, false) }) (v := undef) rfl (by kernel_rfl) (fun _ _ _ h => h) (Or.inr ⟨by rfl, rfl⟩) hS ?_
        (try simp only [Act.put, List.setIfInBounds_toArray, List.set_cons_succ, List.set_cons_zero])
        refine wpE_take (i := 25) (oi := { dst := some 58, op := Go.Op.binOp Go.BinOp.add 80 (Go.Operand.tmp 57) (Go.Operand.const (Go.Value.int Go.IntKind.u16 1)) 80, type := 80, pos := "virtq.go:145", after := #[{ on := 24, ground := Go.Ground.data }, { on := 14, ground := Go.Ground.guard }], guard := some (14, false) }) (v := undef) rfl (by kernel_rfl) (fun _ _ _ h => h) (Or.inr ⟨by rfl, rfl⟩) hS ?_
        (try simp only [Act.put, List.setIfInBounds_toArray, List.set_cons_succ, List.set_cons_zero])
        refine wpE_take (i := 26) (oi := { dst := some 59, op := Go.Op.convert 80 29 (Go.Operand.tmp 58), type := 29, pos := "virtq.go:145", after := #[{ on := 25, ground := Go.Ground.data }, { on := 14, ground := Go.Ground.guard }], guard := some (14, false) }) (v := undef) rfl (by kernel_rfl) (fun _ _ _ h => h) (Or.inr ⟨by rfl, rfl⟩) hS ?_
        (try simp only [Act.put, List.setIfInBounds_toArray, List.set_cons_succ, List.set_cons_zero])
        refine wpE_take (i := 27) (oi := { dst := some 60, op := Go.Op.makeFunc (Go.Fn.method "Write") #[Go.Operand.tmp 48] #[], type := 53, pos := "virtq.go:145", after := #[{ on := 15, ground := Go.Ground.data }, { on := 14, ground := Go.Ground.guard }], guard := some (14, false) }) (v := undef) rfl (by kernel_rfl) (fun _ _ _ h => h) (Or.inr ⟨by rfl, rfl⟩) hS ?_
        (try simp only [Act.put, List.setIfInBounds_toArray, List.set_cons_succ, List.set_cons_zero])
        refine wpE_take (i := 28) (oi := { dst := some 61, op := Go.Op.nilCheck (Go.Operand.tmp 60), type := 53, pos := "virtq.go:145", after := #[{ on := 27, ground := Go.Ground.data }, { on := 14, ground := Go.Ground.guard }], guard := some (14, false) }) (v := undef) rfl (by kernel_rfl) (fun _ _ _ h => h) (Or.inr ⟨by rfl, rfl⟩) hS ?_
        (try simp only [Act.put, List.setIfInBounds_toArray, List.set_cons_succ, List.set_cons_zero])
        refine wpE_take (i := 29) (oi := { dst := some 62, op := Go.Op.move (Go.Operand.tmp 48), type := 84, pos := "virtq.go:145", after := #[{ on := 15, ground := Go.Ground.data }, { on := 14, ground := Go.Ground.guard }, { on := 27, ground := Go.Ground.data }, { on := 28, ground := Go.Ground.data }], guard := some (14, false) }) (v := undef) rfl (by kernel_rfl) (fun _ _ _ h => h) (Or.inr ⟨by rfl, rfl⟩) hS ?_
        (try simp only [Act.put, List.setIfInBounds_toArray, List.set_cons_succ, List.set_cons_zero])
        refine wpE_take (i := 30) (oi := { dst := some 63, op := Go.Op.call { callee := Go.Callee.invoke (Go.Operand.tmp 62) "Write", args := #[Go.Operand.tmp 53, Go.Operand.const (Go.Value.int Go.IntKind.i64 2), Go.Operand.tmp 59], argTypes := #[29, 3, 29] }, type := 4, pos := "virtq.go:145", after := #[{ on := 29, ground := Go.Ground.data }, { on := 20, ground := Go.Ground.data }, { on := 26, ground := Go.Ground.data }, { on := 14, ground := Go.Ground.chain }, { on := 14, ground := Go.Ground.guard }], guard := some (14, false) }) (v := undef) rfl (by kernel_rfl) (fun _ _ _ h => h) (Or.inr ⟨by rfl, rfl⟩) hS ?_
        (try simp only [Act.put, List.setIfInBounds_toArray, List.set_cons_succ, List.set_cons_zero])
        refine wpE_take (i := 31) (oi := { dst := some 64, op := Go.Op.unOp Go.UnOp.not 4 (Go.Operand.tmp 63), type := 4, pos := "virtq.go:145", after := #[{ on := 30, ground := Go.Ground.data }, { on := 14, ground := Go.Ground.guard }], guard := some (14, false) }) (v := undef) rfl (by kernel_rfl) (fun _ _ _ h => h) (Or.inr ⟨by rfl, rfl⟩) hS ?_
        (try simp only [Act.put, List.setIfInBounds_toArray, List.set_cons_succ, List.set_cons_zero])
        refine wpE_last (oi := { dst := some 65, op := Go.Op.pick (Go.Operand.tmp 47) (Go.Operand.const (Go.Value.bool true)) (Go.Operand.tmp 64), type := 4, pos := "virtq.go:145", after := #[{ on := 14, ground := Go.Ground.data }, { on := 31, ground := Go.Ground.data }], guard := none }) rfl (by kernel_rfl) (by kernel_rfl) (by rfl) (fun K hK => ?_)
        go_simp; (try go_bits); refine hK _ _ ?_; clear hK K
        clear hS
        have hput := HB6.out.2.1.putDe true
        have c1' := HB6.out.2.1.cells.2.1
        have z1' := HB6.out.2.1.frz.2.1
        have hM' := HB6.out.2.2.step hput.2 (fun e => H0.out.2.2.2.2 e)
        rw [wrR_no ho2] at hM'
        have HE := Lib.hid (And.intro (show pushQ base n m q H v = (32, (wrR base n m (A4 : Int) 4 H), { q with de := true }) by rw [HP.out, ho1, ho2]; rfl) (And.intro ((((((Step.refl (fun _ => False) own wz).drew.drew).mono (C' := fun x => x = c ∨ x = cm) (fun _ h => h.elim)).trans (HB5.out.1.mono (fun _ h => .inr h))).trans (HB6.out.1.mono (fun _ h => .inr h))).trans (hput.2.mono (C' := fun x => x = c ∨ x = cm) (fun _ h => .inl h))) (And.intro hput.1 hM')))
        clear hput hM' c1 c2 c5 c7
        go_wp2
        go_ret
        rw [HE.out.1]
        exact ⟨rfl, own6, HE.out.2.1, HE.out.2.2.1, HE.out.2.2.2⟩
      | true =>
        have HO2 := Lib.hid (show (okS 4 && hasR base n ((A4 : Int) + 4) 4) = true by rw [ho2]; rfl)
        obtain ⟨o3, ho3⟩ : ∃ b, hasR base n ((q.us : Int) + 2) 2 = b := ⟨_, rfl⟩
        have HO3 := Lib.hid (show (okS 2 && hasR base n ((q.us : Int) + 2) 2) = o3 by rw [ho3]; rfl)
        refine wpE_region (S := fun (W' : World) => W'.cell? ⟨p, 5, none⟩ = some (.int .u64 (q.us : Int)) ∧ W'.cell? ⟨p, 7, none⟩ = some (.int .u16 (q.gv : Int))) (s := 32) (by kernel_rfl) ?_
        have hS : (fun (W' : World) => W'.cell? ⟨p, 5, none⟩ = some (.int .u64 (q.us : Int)) ∧ W'.cell? ⟨p, 7, none⟩ = some (.int .u16 (q.gv : Int))) _ := ⟨c5, c7⟩
        refine wpE_take (i := 0) (oi := { dst := some 33, op := Go.Op.move (Go.Operand.tmp 1), type := 84, pos := "virtq.go:145", after := #[], guard := none }) (v := ?_) rfl (by kernel_rfl) (fun _ _ _ h => h) (Or.inl ⟨by rfl, fun W hW => ?_⟩) hS ?_
        rotate_left
        · obtain ⟨hw', hw''⟩ := hW; go_simp; (try go_bits); (try rw [if_pos (by omega)]); (try with_reducible rfl)
        (try simp only [Act.put, List.setIfInBounds_toArray, List.set_cons_succ, List.set_cons_zero])
        refine wpE_take (i := 1) (oi := { dst := some 34, op := Go.Op.move (Go.Operand.tmp 10), type := 29, pos := "virtq.go:145", after := #[], guard := none }) (v := ?_) rfl (by kernel_rfl) (fun _ _ _ h => h) (Or.inl ⟨by rfl, fun W hW => ?_⟩) hS ?_
        rotate_left
        · obtain ⟨hw', hw''⟩ := hW; go_simp; (try go_bits); (try rw [if_pos (by omega)]); (try with_reducible rfl)
        (try simp only [Act.put, List.setIfInBounds_toArray, List.set_cons_succ, List.set_cons_zero])
        refine wpE_take (i := 2) (oi := { dst := some 35, op := Go.Op.move (Go.Operand.tmp 2), type := 3, pos := "virtq.go:145", after := #[], guard := none }) (v := ?_) rfl (by kernel_rfl) (fun _ _ _ h => h) (Or.inl ⟨by rfl, fun W hW => ?_⟩) hS ?_
        rotate_left
        · obtain ⟨hw', hw''⟩ := hW; go_simp; (try go_bits); (try rw [if_pos (by omega)]); (try with_reducible rfl)
        (try simp only [Act.put, List.setIfInBounds_toArray, List.set_cons_succ, List.set_cons_zero])
        refine wpE_take (i := 3) (oi := { dst := some 36, op := Go.Op.convert 3 29 (Go.Operand.tmp 35), type := 29, pos := "virtq.go:145", after := #[{ on := 2, ground := Go.Ground.data }], guard := none }) (v := ?_) rfl (by kernel_rfl) (fun _ _ _ h => h) (Or.inl ⟨by rfl, fun W hW => ?_⟩) hS ?_
        rotate_left
        · obtain ⟨hw', hw''⟩ := hW; go_simp; (try go_bits); (try rw [if_pos (by omega)]); (try with_reducible rfl)
        (try simp only [Act.put, List.setIfInBounds_toArray, List.set_cons_succ, List.set_cons_zero])
        refine wpE_only (i := 4) (oi := { dst := some 37, op := Go.Op.call { callee := Go.Callee.invoke (Go.Operand.tmp 33) "Write", args := #[Go.Operand.tmp 34, Go.Operand.const (Go.Value.int Go.IntKind.i64 4), Go.Operand.tmp 36], argTypes := #[29, 3, 29] }, type := 4, pos := "virtq.go:145", after := #[{ on := 0, ground := Go.Ground.data }, { on := 1, ground := Go.Ground.data }, { on := 3, ground := Go.Ground.data }], guard := none }) rfl (by kernel_rfl) (by rfl) (fun K hK => ?_)
        go_simp; rw [m_Write]; simp only [Result.andThen]; rw [c_Write, Oper.upon_enter]
        refine (ram_Write (H0.out.2.1.step (Step.refl (fun _ => False) own wz).drew.drew (fun h => h)) (A4 : Int) 4 H (by omega) (by omega) (by decide) (by decide) (by omega) (by omega)).mono ?_
        rintro e w5 ⟨rfl, own5, hS5, hM5⟩
        rw [HO1.out]
        have hQ5 := ((show QAt own c wz.drew.drew p q from H0.out.1)).step hS5 (fun e => H0.out.2.2.2.2 e.symm)
        have hS : w5.cell? ⟨p, 5, none⟩ = some (.int .u64 (q.us : Int)) ∧ w5.cell? ⟨p, 7, none⟩ = some (.int .u16 (q.gv : Int)) := ⟨hQ5.cells.2.2.2.2.2.1, hQ5.cells.2.2.2.2.2.2.2⟩
        have HB5 := Lib.hid (And.intro hS5 (And.intro hQ5 hM5))
        clear hS5 hQ5 hM5
        refine hK _ _ hS ?_; clear hK K
        (try simp only [Act.put, List.setIfInBounds_toArray, List.set_cons_succ, List.set_cons_zero])
        refine wpE_take (i := 5) (oi := { dst := some 38, op := Go.Op.unOp Go.UnOp.not 4 (Go.Operand.tmp 37), type := 4, pos := "virtq.go:145", after := #[{ on := 4, ground := Go.Ground.data }], guard := none }) (v := ?_) rfl (by kernel_rfl) (fun _ _ _ h => h) (Or.inl ⟨by rfl, fun W hW => ?_⟩) hS ?_
        rotate_left
        · obtain ⟨hw', hw''⟩ := hW; go_simp; (try go_bits); (try rw [if_pos (by omega)]); (try with_reducible rfl)
        (try simp only [Act.put, List.setIfInBounds_toArray, List.set_cons_succ, List.set_cons_zero])
        refine wpE_take (i := 6) (oi := { dst := some 39, op := Go.Op.move (Go.Operand.tmp 38), type := 4, pos := "virtq.go:145", after := #[{ on := 5, ground := Go.Ground.data }, { on := 4, ground := Go.Ground.chain }], guard := none }) (v := ?_) rfl (by kernel_rfl) (fun _ _ _ h => h) (Or.inl ⟨by rfl, fun W hW => ?_⟩) hS ?_
        rotate_left
        · obtain ⟨hw', hw''⟩ := hW; go_simp; (try go_bits); (try rw [if_pos (by omega)]); (try with_reducible rfl)
        (try simp only [Act.put, List.setIfInBounds_toArray, List.set_cons_succ, List.set_cons_zero])
        refine wpE_take (i := 7) (oi := { dst := some 40, op := Go.Op.move (Go.Operand.tmp 1), type := 84, pos := "virtq.go:145", after := #[{ on := 6, ground := Go.Ground.guard }], guard := some (6, false) }) (v := ?_) rfl (by kernel_rfl) (fun _ _ _ h => h) (Or.inl ⟨by rfl, fun W hW => ?_⟩) hS ?_
        rotate_left
        · obtain ⟨hw', hw''⟩ := hW; go_simp; (try go_bits); (try rw [if_pos (by omega)]); (try with_reducible rfl)
        (try simp only [Act.put, List.setIfInBounds_toArray, List.set_cons_succ, List.set_cons_zero])
        refine wpE_take (i := 8) (oi := { dst := some 41, op := Go.Op.move (Go.Operand.tmp 10), type := 29, pos := "virtq.go:145", after := #[{ on := 6, ground := Go.Ground.guard }], guard := some (6, false) }) (v := ?_) rfl (by kernel_rfl) (fun _ _ _ h => h) (Or.inl ⟨by rfl, fun W hW => ?_⟩) hS ?_
        rotate_left
        · obtain ⟨hw', hw''⟩ := hW; go_simp; (try go_bits); (try rw [if_pos (by omega)]); (try with_reducible rfl)
        (try simp only [Act.put, List.setIfInBounds_toArray, List.set_cons_succ, List.set_cons_zero])
        refine wpE_take (i := 9) (oi := { dst := some 42, op := Go.Op.binOp Go.BinOp.add 29 (Go.Operand.tmp 41) (Go.Operand.const (Go.Value.int Go.IntKind.u64 4)) 29, type := 29, pos := "virtq.go:145", after := #[{ on := 8, ground := Go.Ground.data }, { on := 6, ground := Go.Ground.guard }], guard := some (6, false) }) (v := ?_) rfl (by kernel_rfl) (fun _ _ _ h => h) (Or.inl ⟨by rfl, fun W hW => ?_⟩) hS ?_
        rotate_left
        · obtain ⟨hw', hw''⟩ := hW; go_simp; (try go_bits); (try rw [if_pos (by omega)]); (try with_reducible rfl)
        (try simp only [Act.put, List.setIfInBounds_toArray, List.set_cons_succ, List.set_cons_zero])
        refine wpE_take (i := 10) (oi := { dst := some 43, op := Go.Op.move (Go.Operand.tmp 3), type := 29, pos := "virtq.go:145", after := #[{ on := 6, ground := Go.Ground.guard }], guard := some (6, false) }) (v := ?_) rfl (by kernel_rfl) (fun _ _ _ h => h) (Or.inl ⟨by rfl, fun W hW => ?_⟩) hS ?_
        rotate_left
        · obtain ⟨hw', hw''⟩ := hW; go_simp; (try go_bits); (try rw [if_pos (by omega)]); (try with_reducible rfl)
        (try simp only [Act.put, List.setIfInBounds_toArray, List.set_cons_succ, List.set_cons_zero])
        refine wpE_only (i := 11) (oi := { dst := some 44, op := Go.Op.call { callee := Go.Callee.invoke (Go.Operand.tmp 40) "Write", args := #[Go.Operand.tmp 42, Go.Operand.const (Go.Value.int Go.IntKind.i64 4), Go.Operand.tmp 43], argTypes := #[29, 3, 29] }, type := 4, pos := "virtq.go:145", after := #[{ on := 7, ground := Go.Ground.data }, { on := 9, ground := Go.Ground.data }, { on := 10, ground := Go.Ground.data }, { on := 6, ground := Go.Ground.chain }, { on := 6, ground := Go.Ground.guard }], guard := some (6, false) }) rfl (by kernel_rfl) (by rfl) (fun K hK => ?_)
        go_simp; rw [m_Write]; simp only [Result.andThen]; rw [c_Write, Oper.upon_enter]
        refine (ram_Write HB5.out.2.2 ((A4 : Int) + 4) 4 v (by omega) (by omega) (by decide) (by decide) (by omega) (by omega)).mono ?_
        rintro e w6 ⟨rfl, own6, hS6, hM6⟩
        rw [HO2.out]
        have hQ6 := (HB5.out.2.1).step hS6 (fun e => H0.out.2.2.2.2 e.symm)
        have hS : w6.cell? ⟨p, 5, none⟩ = some (.int .u64 (q.us : Int)) ∧ w6.cell? ⟨p, 7, none⟩ = some (.int .u16 (q.gv : Int)) := ⟨hQ6.cells.2.2.2.2.2.1, hQ6.cells.2.2.2.2.2.2.2⟩
        have HB6 := Lib.hid (And.intro hS6 (And.intro hQ6 hM6))
        clear hS6 hQ6 hM6
        refine hK _ _ hS ?_; clear hK K
        (try simp only [Act.put, List.setIfInBounds_toArray, List.set_cons_succ, List.set_cons_zero])
        refine wpE_take (i := 12) (oi := { dst := some 45, op := Go.Op.unOp Go.UnOp.not 4 (Go.Operand.tmp 44), type := 4, pos := "virtq.go:145", after := #[{ on := 11, ground := Go.Ground.data }, { on := 6, ground := Go.Ground.guard }], guard := some (6, false) }) (v := ?_) rfl (by kernel_rfl) (fun _ _ _ h => h) (Or.inl ⟨by rfl, fun W hW => ?_⟩) hS ?_
        rotate_left
        · obtain ⟨hw', hw''⟩ := hW; go_simp; (try go_bits); (try rw [if_pos (by omega)]); (try with_reducible rfl)
        (try simp only [Act.put, List.setIfInBounds_toArray, List.set_cons_succ, List.set_cons_zero])
        refine wpE_take (i := 13) (oi := { dst := some 46, op := Go.Op.pick (Go.Operand.tmp 39) (Go.Operand.const (Go.Value.bool true)) (Go.Operand.tmp 45), type := 4, pos := "virtq.go:145", after := #[{ on := 6, ground := Go.Ground.data }, { on := 12, ground := Go.Ground.data }], guard := none }) (v := ?_) rfl (by kernel_rfl) (fun _ _ _ h => h) (Or.inl ⟨by rfl, fun W hW => ?_⟩) hS ?_
        rotate_left
        · obtain ⟨hw', hw''⟩ := hW; go_simp; (try go_bits); (try rw [if_pos (by omega)]); (try with_reducible rfl)
        (try simp only [Act.put, List.setIfInBounds_toArray, List.set_cons_succ, List.set_cons_zero])
        refine wpE_take (i := 14) (oi := { dst := some 47, op := Go.Op.move (Go.Operand.tmp 46), type := 4, pos := "virtq.go:145", after := #[{ on := 13, ground := Go.Ground.data }, { on := 11, ground := Go.Ground.chain }], guard := none }) (v := ?_) rfl (by kernel_rfl) (fun _ _ _ h => h) (Or.inl ⟨by rfl, fun W hW => ?_⟩) hS ?_
        rotate_left
        · obtain ⟨hw', hw''⟩ := hW; go_simp; (try go_bits); (try rw [if_pos (by omega)]); (try with_reducible rfl)
        (try simp only [Act.put, List.setIfInBounds_toArray, List.set_cons_succ, List.set_cons_zero])
        refine wpE_take (i := 15) (oi := { dst := some 48, op := Go.Op.move (Go.Operand.tmp 1), type := 84, pos := "virtq.go:145", after := #[{ on := 14, ground := Go.Ground.guard }], guard := some (14, false) }) (v := ?_) rfl (by kernel_rfl) (fun _ _ _ h => h) (Or.inl ⟨by rfl, fun W hW => ?_⟩) hS ?_
        rotate_left
        · obtain ⟨hw', hw''⟩ := hW; go_simp; (try go_bits); (try rw [if_pos (by omega)]); (try with_reducible rfl)
        (try simp only [Act.put, List.setIfInBounds_toArray, List.set_cons_succ, List.set_cons_zero])
        refine wpE_take (i := 16) (oi := { dst := some 49, op := Go.Op.move (Go.Operand.tmp 0), type := 30, pos := "virtq.go:145", after := #[{ on := 14, ground := Go.Ground.guard }], guard := some (14, false) }) (v := ?_) rfl (by kernel_rfl) (fun _ _ _ h => h) (Or.inl ⟨by rfl, fun W hW => ?_⟩) hS ?_
        rotate_left
        · obtain ⟨hw', hw''⟩ := hW; go_simp; (try go_bits); (try rw [if_pos (by omega)]); (try with_reducible rfl)
        (try simp only [Act.put, List.setIfInBounds_toArray, List.set_cons_succ, List.set_cons_zero])
        refine wpE_take (i := 17) (oi := { dst := some 50, op := Go.Op.nilCheck (Go.Operand.tmp 49), type := 0, pos := "virtq.go:145", after := #[{ on := 16, ground := Go.Ground.data }, { on := 14, ground := Go.Ground.guard }], guard := some (14, false) }) (v := ?_) rfl (by kernel_rfl) (fun _ _ _ h => h) (Or.inl ⟨by rfl, fun W hW => ?_⟩) hS ?_
        rotate_left
        · obtain ⟨hw', hw''⟩ := hW; go_simp; (try go_bits); (try rw [if_pos (by omega)]); (try with_reducible rfl)
        (try simp only [Act.put, List.setIfInBounds_toArray, List.set_cons_succ, List.set_cons_zero])
        refine wpE_take (i := 18) (oi := { dst := some 51, op := Go.Op.fieldAddr 82 (Go.Operand.tmp 50) 5, type := 0, pos := "virtq.go:145", after := #[{ on := 17, ground := Go.Ground.data }, { on := 14, ground := Go.Ground.guard }], guard := some (14, false) }) (v := ?_) rfl (by kernel_rfl) (fun _ _ _ h => h) (Or.inl ⟨by rfl, fun W hW => ?_⟩) hS ?_
        rotate_left
        · obtain ⟨hw', hw''⟩ := hW; go_simp; (try go_bits); (try rw [if_pos (by omega)]); (try with_reducible rfl)
        (try simp only [Act.put, List.setIfInBounds_toArray, List.set_cons_succ, List.set_cons_zero])
        refine wpE_take (i := 19) (oi := { dst := some 52, op := Go.Op.load 29 (Go.Operand.tmp 51), type := 29, pos := "virtq.go:145", after := #[{ on := 18, ground := Go.Ground.data }, { on := 14, ground := Go.Ground.guard }], guard := some (14, false) }) (v := ?_) rfl (by kernel_rfl) (fun _ _ _ h => h) (Or.inl ⟨by rfl, fun W hW => ?_⟩) hS ?_
        rotate_left
        · obtain ⟨hw', hw''⟩ := hW; go_simp; (try go_bits); (try rw [if_pos (by omega)]); (try with_reducible rfl)
        (try simp only [Act.put, List.setIfInBounds_toArray, List.set_cons_succ, List.set_cons_zero])
        refine wpE_take (i := 20) (oi := { dst := some 53, op := Go.Op.binOp Go.BinOp.add 29 (Go.Operand.tmp 52) (Go.Operand.const (Go.Value.int Go.IntKind.u64 2)) 29, type := 29, pos := "virtq.go:145", after := #[{ on := 19, ground := Go.Ground.data }, { on := 14, ground := Go.Ground.guard }], guard := some (14, false) }) (v := ?_) rfl (by kernel_rfl) (fun _ _ _ h => h) (Or.inl ⟨by rfl, fun W hW => ?_⟩) hS ?_
        rotate_left
        · obtain ⟨hw', hw''⟩ := hW; go_simp; (try go_bits); (try rw [if_pos (by omega)]); (try with_reducible rfl)
        (try simp only [Act.put, List.setIfInBounds_toArray, List.set_cons_succ, List.set_cons_zero])
        refine wpE_take (i := 21) (oi := { dst := some 54, op := Go.Op.move (Go.Operand.tmp 0), type := 30, pos := "virtq.go:145", after := #[{ on := 14, ground := Go.Ground.guard }], guard := some (14, false) }) (v := ?_) rfl (by kernel_rfl) (fun _ _ _ h => h) (Or.inl ⟨by rfl, fun W hW => ?_⟩) hS ?_
        rotate_left
        · obtain ⟨hw', hw''⟩ := hW; go_simp; (try go_bits); (try rw [if_pos (by omega)]); (try with_reducible rfl)
        (try simp only [Act.put, List.setIfInBounds_toArray, List.set_cons_succ, List.set_cons_zero])
        refine wpE_take (i := 22) (oi := { dst := some 55, op := Go.Op.nilCheck (Go.Operand.tmp 54), type := 0, pos := "virtq.go:145", after := #[{ on := 21, ground := Go.Ground.data }, { on := 14, ground := Go.Ground.guard }], guard := some (14, false) }) (v := ?_) rfl (by kernel_rfl) (fun _ _ _ h => h) (Or.inl ⟨by rfl, fun W hW => ?_⟩) hS ?_
        rotate_left
        · obtain ⟨hw', hw''⟩ := hW; go_simp; (try go_bits); (try rw [if_pos (by omega)]); (try with_reducible rfl)
        (try simp only [Act.put, List.setIfInBounds_toArray, List.set_cons_succ, List.set_cons_zero])
        refine wpE_take (i := 23) (oi := { dst := some 56, op := Go.Op.fieldAddr 82 (Go.Operand.tmp 55) 7, type := 0, pos := "virtq.go:145", after := #[{ on := 22, ground := Go.Ground.data }, { on := 14, ground := Go.Ground.guard }], guard := some (14, false) }) (v := ?_) rfl (by kernel_rfl) (fun _ _ _ h => h) (Or.inl ⟨by rfl, fun W hW => ?_⟩) hS ?_
        rotate_left
        · obtain ⟨hw', hw''⟩ := hW; go_simp; (try go_bits); (try rw [if_pos (by omega)]); (try with_reducible rfl)
        (try simp only [Act.put, List.setIfInBounds_toArray, List.set_cons_succ, List.set_cons_zero])
        refine wpE_take (i := 24) (oi := { dst := some 57, op := Go.Op.load 80 (Go.Operand.tmp 56), type := 80, pos := "virtq.go:145", after := #[{ on := 23, ground := Go.Ground.data }, { on := 14, ground := Go.Ground.guard }], guard := some (14, false) }) (v := ?_) rfl (by kernel_rfl) (fun _ _ _ h => h) (Or.inl ⟨by rfl, fun W hW => ?_⟩) hS ?_
        rotate_left
        · obtain ⟨hw', hw''⟩ := hW; go_simp; (try go_bits); (try rw [if_pos (by omega)]); (try with_reducible rfl)
        (try simp only [Act.put, List.setIfInBounds_toArray, List.set_cons_succ, List.set_cons_zero])
        refine wpE_take (i := 25) (oi := { dst := some 58, op := Go.Op.binOp Go.BinOp.add 80 (Go.Operand.tmp 57) (Go.Operand.const (Go.Value.int Go.IntKind.u16 1)) 80, type := 80, pos := "virtq.go:145", after := #[{ on := 24, ground := Go.Ground.data }, { on := 14, ground := Go.Ground.guard }], guard := some (14, false) }) (v := ?_) rfl (by kernel_rfl) (fun _ _ _ h => h) (Or.inl ⟨by rfl, fun W hW => ?_⟩) hS ?_
        rotate_left
        · obtain ⟨hw', hw''⟩ := hW; go_simp; (try go_bits); (try rw [if_pos (by omega)]); (try with_reducible rfl)
        (try simp only [Act.put, List.setIfInBounds_toArray, List.set_cons_succ, List.set_cons_zero])
        refine wpE_take (i := 26) (oi := { dst := some 59, op := Go.Op.convert 80 29 (Go.Operand.tmp 58), type := 29, pos := "virtq.go:145", after := #[{ on := 25, ground := Go.Ground.data }, { on := 14, ground := Go.Ground.guard }], guard := some (14, false) }) (v := ?_) rfl (by kernel_rfl) (fun _ _ _ h => h) (Or.inl ⟨by rfl, fun W hW => ?_⟩) hS ?_
        rotate_left
        · obtain ⟨hw', hw''⟩ := hW; go_simp; (try go_bits); (try rw [if_pos (by omega)]); (try with_reducible rfl)
        (try simp only [Act.put, List.setIfInBounds_toArray, List.set_cons_succ, List.set_cons_zero])
        refine wpE_take (i := 27) (oi := { dst := some 60, op := Go.Op.makeFunc (Go.Fn.method "Write") #[Go.Operand.tmp 48] #[], type := 53, pos := "virtq.go:145", after := #[{ on := 15, ground := Go.Ground.data }, { on := 14, ground := Go.Ground.guard }], guard := some (14, false) }) (v := ?_) rfl (by kernel_rfl) (fun _ _ _ h => h) (Or.inl ⟨by rfl, fun W hW => ?_⟩) hS ?_
        rotate_left
        · obtain ⟨hw', hw''⟩ := hW; go_simp; (try go_bits); (try rw [if_pos (by omega)]); (try with_reducible rfl)
        (try simp only [Act.put, List.setIfInBounds_toArray, List.set_cons_succ, List.set_cons_zero])
        refine wpE_take (i := 28) (oi := { dst := some 61, op := Go.Op.nilCheck (Go.Operand.tmp 60), type := 53, pos := "virtq.go:145", after := #[{ on := 27, ground := Go.Ground.data }, { on := 14, ground := Go.Ground.guard }], guard := some (14, false) }) (v := ?_) rfl (by kernel_rfl) (fun _ _ _ h => h) (Or.inl ⟨by rfl, fun W hW => ?_⟩) hS ?_
        rotate_left
        · obtain ⟨hw', hw''⟩ := hW; go_simp; (try go_bits); (try rw [if_pos (by omega)]); (try with_reducible rfl)
        (try simp only [Act.put, List.setIfInBounds_toArray, List.set_cons_succ, List.set_cons_zero])
        refine wpE_take (i := 29) (oi := { dst := some 62, op := Go.Op.move (Go.Operand.tmp 48), type := 84, pos := "virtq.go:145", after := #[{ on := 15, ground := Go.Ground.data }, { on := 14, ground := Go.Ground.guard }, { on := 27, ground := Go.Ground.data }, { on := 28, ground := Go.Ground.data }], guard := some (14, false) }) (v := ?_) rfl (by kernel_rfl) (fun _ _ _ h => h) (Or.inl ⟨by rfl, fun W hW => ?_⟩) hS ?_
        rotate_left
        · obtain ⟨hw', hw''⟩ := hW; go_simp; (try go_bits); (try rw [if_pos (by omega)]); (try with_reducible rfl)
        (try simp only [Act.put, List.setIfInBounds_toArray, List.set_cons_succ, List.set_cons_zero])
        refine wpE_only (i := 30) (oi := { dst := some 63, op := Go.Op.call { callee := Go.Callee.invoke (Go.Operand.tmp 62) "Write", args := #[Go.Operand.tmp 53, Go.Operand.const (Go.Value.int Go.IntKind.i64 2), Go.Operand.tmp 59], argTypes := #[29, 3, 29] }, type := 4, pos := "virtq.go:145", after := #[{ on := 29, ground := Go.Ground.data }, { on := 20, ground := Go.Ground.data }, { on := 26, ground := Go.Ground.data }, { on := 14, ground := Go.Ground.chain }, { on := 14, ground := Go.Ground.guard }], guard := some (14, false) }) rfl (by kernel_rfl) (by rfl) (fun K hK => ?_)
        go_simp; rw [m_Write]; simp only [Result.andThen]; rw [c_Write, Oper.upon_enter]
        refine (ram_Write HB6.out.2.2 ((q.us : Int) + 2) 2 (G : Int) (by omega) (by omega) (by decide) (by decide) (by omega) (by omega)).mono ?_
        rintro e w7 ⟨rfl, own7, hS7, hM7⟩
        rw [HO3.out]
        have hQ7 := (HB6.out.2.1).step hS7 (fun e => H0.out.2.2.2.2 e.symm)
        have hS : w7.cell? ⟨p, 5, none⟩ = some (.int .u64 (q.us : Int)) ∧ w7.cell? ⟨p, 7, none⟩ = some (.int .u16 (q.gv : Int)) := ⟨hQ7.cells.2.2.2.2.2.1, hQ7.cells.2.2.2.2.2.2.2⟩
        have HB7 := Lib.hid (And.intro hS7 (And.intro hQ7 hM7))
        clear hS7 hQ7 hM7
        refine hK _ _ hS ?_; clear hK K
        (try simp only [Act.put, List.setIfInBounds_toArray, List.set_cons_succ, List.set_cons_zero])
        refine wpE_take (i := 31) (oi := { dst := some 64, op := Go.Op.unOp Go.UnOp.not 4 (Go.Operand.tmp 63), type := 4, pos := "virtq.go:145", after := #[{ on := 30, ground := Go.Ground.data }, { on := 14, ground := Go.Ground.guard }], guard := some (14, false) }) (v := ?_) rfl (by kernel_rfl) (fun _ _ _ h => h) (Or.inl ⟨by rfl, fun W hW => ?_⟩) hS ?_
        rotate_left
        · obtain ⟨hw', hw''⟩ := hW; go_simp; (try go_bits); (try rw [if_pos (by omega)]); (try with_reducible rfl)
        (try simp only [Act.put, List.setIfInBounds_toArray, List.set_cons_succ, List.set_cons_zero])
        refine wpE_last (oi := { dst := some 65, op := Go.Op.pick (Go.Operand.tmp 47) (Go.Operand.const (Go.Value.bool true)) (Go.Operand.tmp 64), type := 4, pos := "virtq.go:145", after := #[{ on := 14, ground := Go.Ground.data }, { on := 31, ground := Go.Ground.data }], guard := none }) rfl (by kernel_rfl) (by kernel_rfl) (by rfl) (fun K hK => ?_)
        go_simp; (try go_bits); refine hK _ _ ?_; clear hK K
        clear hS
        cases o3 with
        | false =>
          have hput := HB7.out.2.1.putDe true
          have c1' := HB7.out.2.1.cells.2.1
          have z1' := HB7.out.2.1.frz.2.1
          have hM' := HB7.out.2.2.step hput.2 (fun e => H0.out.2.2.2.2 e)
          rw [wrR_no ho3] at hM'
          have HE := Lib.hid (And.intro (show pushQ base n m q H v = (32, (wrR base n (wrR base n m (A4 : Int) 4 H) ((A4 : Int) + 4) 4 v), { q with de := true }) by rw [HP.out, ho1, ho2, ho3]; rfl) (And.intro ((((((((Step.refl (fun _ => False) own wz).drew.drew).mono (C' := fun x => x = c ∨ x = cm) (fun _ h => h.elim)).trans (HB5.out.1.mono (fun _ h => .inr h)))).trans (HB6.out.1.mono (fun _ h => .inr h))).trans (HB7.out.1.mono (fun _ h => .inr h))).trans (hput.2.mono (C' := fun x => x = c ∨ x = cm) (fun _ h => .inl h))) (And.intro hput.1 hM')))
          clear hput hM' c1 c2 c5 c7
          go_wp2
          go_ret
          rw [HE.out.1]
          exact ⟨rfl, own7, HE.out.2.1, HE.out.2.2.1, HE.out.2.2.2⟩
        | true =>
          have hput := HB7.out.2.1.putGv G
          have c1' := HB7.out.2.1.cells.2.2.2.2.2.2.2
          have z1' := HB7.out.2.1.frz.2.2.2.2.2.2.2
          have hM' := HB7.out.2.2.step hput.2 (fun e => H0.out.2.2.2.2 e)
          have HE := Lib.hid (And.intro (show pushQ base n m q H v = (0, wrR base n (wrR base n (wrR base n m (A4 : Int) 4 H) ((A4 : Int) + 4) 4 v) ((q.us : Int) + 2) 2 (G : Int), { q with gv := G }) by rw [HP.out, ho1, ho2, ho3]; rfl) (And.intro ((((((((Step.refl (fun _ => False) own wz).drew.drew).mono (C' := fun x => x = c ∨ x = cm) (fun _ h => h.elim)).trans (HB5.out.1.mono (fun _ h => .inr h)))).trans (HB6.out.1.mono (fun _ h => .inr h))).trans (HB7.out.1.mono (fun _ h => .inr h))).trans (hput.2.mono (C' := fun x => x = c ∨ x = cm) (fun _ h => .inl h))) (And.intro hput.1 hM')))
          clear hput hM' c1 c2 c5 c7
          go_wp2
          go_ret
          rw [HE.out.1]
          exact ⟨rfl, own7, HE.out.2.1, HE.out.2.2.1, HE.out.2.2.2⟩
  · have HE := Lib.hid (show pushQ base n m q H v = (U, m, q) by unfold pushQ; rw [H0.out.2.2.2.1, if_neg hu0])
    have hne : (U != 0) = true := by simpa using hu0
    clear hu0
    go_enter Try.func17, Try.ntmps17
    go_wp2_with fail
    ((with_reducible refine HU.out.mono ?_); rintro e wz ⟨rfl, rfl⟩)
    go_wp2
    go_ret
    rw [HE.out]
    exact ⟨rfl, own, Step.refl _ _ _, H0.out.1, H0.out.2.1⟩
end
end Go.Proofs.Ytjhibbhinbdciaa
