import Derived.Test.YtonhlgfgbdiapaaGreatFd
/- citadellaw08.play over plain memories. -/
namespace Go.Proofs.YtonhlgfgbdiapaaGreat
set_option linter.unusedVariables false
set_option linter.unusedSimpArgs false
open Go.RowKit
set_option maxRecDepth 100000
set_option maxHeartbeats 8000000 in
theorem play_F {w0 w : World} {own : Nat → Nat} {e q p p2 bs n : Nat} {s0 t0 : Eg} {m0 : Nat → Int} (h : FD w0 own w e q p p2 bs n s0 t0 m0 m0) (hs0 : SimE s0 t0) (A : Option Addr) (cap : Nat) (L : List Op8) (hL : Ops8At w0 (.slice A L.length cap) L) (hLb : ∀ o ∈ L, Op8B o) (hLl : L.length ≤ 9223372036854775807) :
    Calls Tryz.prog 22 #[.pointer (some ⟨e, 0, none⟩), .pointer (some ⟨q, 0, none⟩), .agg #[.pointer none, .pointer none, .pointer none, .pointer none], .bool true, .slice A L.length cap] w fun x w' => x = .returned (.bool true) ∧ ∃ own' s t m, Step (fun x => x ≠ 0 ∧ x ≠ 9) own w own' w' ∧ FD w0 own' w' e q p p2 bs n s t m m ∧ SimE s t := by
  have HL := Lib.hid (And.intro hL hLb)
  have H0 := Lib.hid (show ∃ own' s t m, Step (fun x => x ≠ 0 ∧ x ≠ 9) own w own' (w.alloc (.cells #[.pointer none, .pointer none, .pointer none, .pointer none] 36)) ∧ FD w0 own' (w.alloc (.cells #[.pointer none, .pointer none, .pointer none, .pointer none] 36)) e q p p2 bs n s t m m ∧ SimE s t from ⟨ext own w 9, s0, t0, m0, ⟨(Upd.refl _ _).alloc _, fun b hb => ext_old _ _ _ hb⟩, h.alloc _ 9, hs0⟩)
  clear hL hLb h hs0
  go_enter Tryz.func22, Tryz.ntmps22
  go_wp2
  go_loopw [11] (fun i wr => ∃ (j : Nat), i = .int .i64 (j : Int) ∧ j ≤ L.length ∧ Hid (∃ own' s t m, Step (fun x => x ≠ 0 ∧ x ≠ 9) own w own' wr ∧ FD w0 own' wr e q p p2 bs n s t m m ∧ SimE s t)) (fun i _ => L.length - (intOf i).toNat)
  case atStart => exact ⟨0, rfl, by omega, H0.out⟩
  case round =>
    rename World => wr
    obtain ⟨j, rfl, hj, HR⟩ := hrel
    clear H0
    by_cases hlt : j < L.length
    · have hlt' : (j : Int) < (L.length : Int) := by omega
      obtain ⟨own1, s, t, m, hS1, hD1, hsim⟩ := HR.out
      have hget : L[j]? = some L[j] := List.getElem?_eq_getElem hlt
      have hob := HL.out.2 _ (List.getElem_mem hlt)
      obtain ⟨g, o, rfl, hg, c0, c1, c2, c3, c4, c5, c6, c7, c8, c9, c10, c11⟩ := (HL.out.1.upd hD1.upd).cells hget
      generalize L[j] = x at *
      obtain ⟨xk, xz, xo, xv, yk, yd, ys, ya, yv, yw, yg, yq⟩ := x
      obtain ⟨hbk, hbz, hbo, hbv, hbx⟩ := hob
      simp only [] at c0 c1 c2 c3 c4 c5 c6 c7 c8 c9 c10 c11 hbk hbz hbo hbv hbx
      have hSa : Step (fun _ => False) own1 wr (ext own1 wr 9) (wr.alloc (.cells #[.int .i64 xk, .int .i64 xz, .int .u64 (xo : Int), .int .u64 (xv : Int), .int .i64 yk, .int .i64 yd, .int .i64 ys, .int .u64 (ya : Int), .int .u64 (yv : Int), .bool yw, .int .i64 yg, .int .i64 yq] 51)) := ⟨(Upd.refl _ _).alloc _, fun b hb => ext_old _ _ _ hb⟩
      have hD2 := hD1.none_ hSa
      have hX : Blk (wr.alloc (.cells #[.int .i64 xk, .int .i64 xz, .int .u64 (xo : Int), .int .u64 (xv : Int), .int .i64 yk, .int .i64 yd, .int .i64 ys, .int .u64 (ya : Int), .int .u64 (yv : Int), .bool yw, .int .i64 yg, .int .i64 yq] 51)) wr.heap.size 51 #[.int .i64 xk, .int .i64 xz, .int .u64 (xo : Int), .int .u64 (xv : Int), .int .i64 yk, .int .i64 yd, .int .i64 ys, .int .u64 (ya : Int), .int .u64 (yv : Int), .bool yw, .int .i64 yg, .int .i64 yq] ∧ ext own1 wr 9 wr.heap.size = 9 := ⟨Blk.new wr _ _, ext_new _ _ _ (Nat.le_refl _)⟩
      obtain ⟨kk, hkk⟩ : ∃ kk : Nat, xk % 5 = (kk : Int) := ⟨(xk % 5).toNat, by omega⟩
      have hk5 : kk < 5 := by omega
      have P1 := fun w => place_calls xk 5 w hbk.1 hbk.2 (by decide) (by decide)
      rw [hkk] at P1
      have HP1 := Lib.hid P1
      have H2 := Lib.hid (And.intro (hS1.trans (hSa.mono (fun _ h => h.elim))) (And.intro hD2 (And.intro hsim hX)))
      clear hS1 hD1 hsim hget hSa hD2 hX hkk P1 HR
      go_wp2_with fail
      generalize wr.alloc (.cells #[.int .i64 xk, .int .i64 xz, .int .u64 (xo : Int), .int .u64 (xv : Int), .int .i64 yk, .int .i64 yd, .int .i64 ys, .int .u64 (ya : Int), .int .u64 (yv : Int), .bool yw, .int .i64 yg, .int .i64 yq] 51) = w2 at *
      generalize ext own1 wr 9 = own2 at *
      generalize wr.heap.size = xb at *
      ((with_reducible refine (HP1.out _).mono ?_); rintro y wz ⟨rfl, rfl⟩)
      clear HP1 hbk
      have hX := H2.out.2.2.2
      have x1 := hX.1.cell 1
      have x2 := hX.1.cell 2
      have x3 := hX.1.cell 3
      simp only [List.getElem?_toArray, List.getElem?_cons_zero, List.getElem?_cons_succ] at x1 x2 x3
      clear c0 c1 c2 c3 c4 c5 c6 c7 c8 c9 c10 c11 hX
      rcases (show kk = 0 ∨ kk = 1 ∨ kk = 2 ∨ kk = 3 ∨ kk = 4 by omega) with rfl | rfl | rfl | rfl | rfl
      · have hD := H2.out.2.1.drew
        have hok2 := hD.f.ok.write xo xz xv hbv
        have hsim2 := H2.out.2.2.1.write xo xz xv
        have HW := Lib.hid (hD.write xo hbo xz hbz xv hbv)
        have HS := Lib.hid (And.intro hok2 hsim2)
        clear hD hok2 hsim2
        go_wp2_with fail
        refine wpE_region (S := fun (W' : World) => W'.cell? ⟨xb, 1, none⟩ = some (.int .i64 xz) ∧ W'.cell? ⟨xb, 2, none⟩ = some (.int .u64 (xo : Int)) ∧ W'.cell? ⟨xb, 3, none⟩ = some (.int .u64 (xv : Int))) (s := 16) (by kernel_rfl) ?_
        have hS : (fun (W' : World) => W'.cell? ⟨xb, 1, none⟩ = some (.int .i64 xz) ∧ W'.cell? ⟨xb, 2, none⟩ = some (.int .u64 (xo : Int)) ∧ W'.cell? ⟨xb, 3, none⟩ = some (.int .u64 (xv : Int))) _ := ⟨x1, x2, x3⟩
        refine wpE_take (i := 0) (oi := { dst := some 36, op := Go.Op.move (Go.Operand.tmp 0), type := 42, pos := "law.go:41", after := #[], guard := none }) (v := ?_) rfl (by kernel_rfl) (fun _ _ _ h => h) (Or.inl ⟨by rfl, fun W hW => ?_⟩) hS ?_
        rotate_left
        · obtain ⟨hw1, hw2, hw3⟩ := hW; go_simp; (try go_bits); (try rw [if_pos (by omega)]); (try with_reducible rfl)
        (try simp only [Act.put, List.setIfInBounds_toArray, List.set_cons_succ, List.set_cons_zero])
        refine wpE_take (i := 1) (oi := { dst := some 37, op := Go.Op.fieldAddr 51 (Go.Operand.tmp 12) 2, type := 0, pos := "law.go:41", after := #[], guard := none }) (v := ?_) rfl (by kernel_rfl) (fun _ _ _ h => h) (Or.inl ⟨by rfl, fun W hW => ?_⟩) hS ?_
        rotate_left
        · obtain ⟨hw1, hw2, hw3⟩ := hW; go_simp; (try go_bits); (try rw [if_pos (by omega)]); (try with_reducible rfl)
        (try simp only [Act.put, List.setIfInBounds_toArray, List.set_cons_succ, List.set_cons_zero])
        refine wpE_take (i := 2) (oi := { dst := some 38, op := Go.Op.load 23 (Go.Operand.tmp 37), type := 23, pos := "law.go:41", after := #[{ on := 1, ground := Go.Ground.data }], guard := none }) (v := ?_) rfl (by kernel_rfl) (fun _ _ _ h => h) (Or.inl ⟨by rfl, fun W hW => ?_⟩) hS ?_
        rotate_left
        · obtain ⟨hw1, hw2, hw3⟩ := hW; go_simp; (try go_bits); (try rw [if_pos (by omega)]); (try with_reducible rfl)
        (try simp only [Act.put, List.setIfInBounds_toArray, List.set_cons_succ, List.set_cons_zero])
        refine wpE_take (i := 3) (oi := { dst := some 39, op := Go.Op.fieldAddr 51 (Go.Operand.tmp 12) 1, type := 0, pos := "law.go:41", after := #[], guard := none }) (v := ?_) rfl (by kernel_rfl) (fun _ _ _ h => h) (Or.inl ⟨by rfl, fun W hW => ?_⟩) hS ?_
        rotate_left
        · obtain ⟨hw1, hw2, hw3⟩ := hW; go_simp; (try go_bits); (try rw [if_pos (by omega)]); (try with_reducible rfl)
        (try simp only [Act.put, List.setIfInBounds_toArray, List.set_cons_succ, List.set_cons_zero])
        refine wpE_take (i := 4) (oi := { dst := some 40, op := Go.Op.load 3 (Go.Operand.tmp 39), type := 3, pos := "law.go:41", after := #[{ on := 3, ground := Go.Ground.data }], guard := none }) (v := ?_) rfl (by kernel_rfl) (fun _ _ _ h => h) (Or.inl ⟨by rfl, fun W hW => ?_⟩) hS ?_
        rotate_left
        · obtain ⟨hw1, hw2, hw3⟩ := hW; go_simp; (try go_bits); (try rw [if_pos (by omega)]); (try with_reducible rfl)
        (try simp only [Act.put, List.setIfInBounds_toArray, List.set_cons_succ, List.set_cons_zero])
        refine wpE_take (i := 5) (oi := { dst := some 41, op := Go.Op.fieldAddr 51 (Go.Operand.tmp 12) 3, type := 0, pos := "law.go:41", after := #[], guard := none }) (v := ?_) rfl (by kernel_rfl) (fun _ _ _ h => h) (Or.inl ⟨by rfl, fun W hW => ?_⟩) hS ?_
        rotate_left
        · obtain ⟨hw1, hw2, hw3⟩ := hW; go_simp; (try go_bits); (try rw [if_pos (by omega)]); (try with_reducible rfl)
        (try simp only [Act.put, List.setIfInBounds_toArray, List.set_cons_succ, List.set_cons_zero])
        refine wpE_take (i := 6) (oi := { dst := some 42, op := Go.Op.load 23 (Go.Operand.tmp 41), type := 23, pos := "law.go:41", after := #[{ on := 5, ground := Go.Ground.data }], guard := none }) (v := ?_) rfl (by kernel_rfl) (fun _ _ _ h => h) (Or.inl ⟨by rfl, fun W hW => ?_⟩) hS ?_
        rotate_left
        · obtain ⟨hw1, hw2, hw3⟩ := hW; go_simp; (try go_bits); (try rw [if_pos (by omega)]); (try with_reducible rfl)
        (try simp only [Act.put, List.setIfInBounds_toArray, List.set_cons_succ, List.set_cons_zero])
        refine wpE_take (i := 8) (oi := { dst := some 44, op := Go.Op.move (Go.Operand.tmp 1), type := 71, pos := "law.go:41", after := #[], guard := none }) (v := ?_) rfl (by kernel_rfl) (fun _ _ _ h => h) (Or.inl ⟨by rfl, fun W hW => ?_⟩) hS ?_
        rotate_left
        · obtain ⟨hw1, hw2, hw3⟩ := hW; go_simp; (try go_bits); (try rw [if_pos (by omega)]); (try with_reducible rfl)
        (try simp only [Act.put, List.setIfInBounds_toArray, List.set_cons_succ, List.set_cons_zero])
        refine wpE_take (i := 9) (oi := { dst := some 45, op := Go.Op.fieldAddr 51 (Go.Operand.tmp 12) 2, type := 0, pos := "law.go:41", after := #[], guard := none }) (v := ?_) rfl (by kernel_rfl) (fun _ _ _ h => h) (Or.inl ⟨by rfl, fun W hW => ?_⟩) hS ?_
        rotate_left
        · obtain ⟨hw1, hw2, hw3⟩ := hW; go_simp; (try go_bits); (try rw [if_pos (by omega)]); (try with_reducible rfl)
        (try simp only [Act.put, List.setIfInBounds_toArray, List.set_cons_succ, List.set_cons_zero])
        refine wpE_take (i := 10) (oi := { dst := some 46, op := Go.Op.load 23 (Go.Operand.tmp 45), type := 23, pos := "law.go:41", after := #[{ on := 9, ground := Go.Ground.data }], guard := none }) (v := ?_) rfl (by kernel_rfl) (fun _ _ _ h => h) (Or.inl ⟨by rfl, fun W hW => ?_⟩) hS ?_
        rotate_left
        · obtain ⟨hw1, hw2, hw3⟩ := hW; go_simp; (try go_bits); (try rw [if_pos (by omega)]); (try with_reducible rfl)
        (try simp only [Act.put, List.setIfInBounds_toArray, List.set_cons_succ, List.set_cons_zero])
        refine wpE_take (i := 11) (oi := { dst := some 47, op := Go.Op.fieldAddr 51 (Go.Operand.tmp 12) 1, type := 0, pos := "law.go:41", after := #[], guard := none }) (v := ?_) rfl (by kernel_rfl) (fun _ _ _ h => h) (Or.inl ⟨by rfl, fun W hW => ?_⟩) hS ?_
        rotate_left
        · obtain ⟨hw1, hw2, hw3⟩ := hW; go_simp; (try go_bits); (try rw [if_pos (by omega)]); (try with_reducible rfl)
        (try simp only [Act.put, List.setIfInBounds_toArray, List.set_cons_succ, List.set_cons_zero])
        refine wpE_take (i := 12) (oi := { dst := some 48, op := Go.Op.load 3 (Go.Operand.tmp 47), type := 3, pos := "law.go:41", after := #[{ on := 11, ground := Go.Ground.data }], guard := none }) (v := ?_) rfl (by kernel_rfl) (fun _ _ _ h => h) (Or.inl ⟨by rfl, fun W hW => ?_⟩) hS ?_
        rotate_left
        · obtain ⟨hw1, hw2, hw3⟩ := hW; go_simp; (try go_bits); (try rw [if_pos (by omega)]); (try with_reducible rfl)
        (try simp only [Act.put, List.setIfInBounds_toArray, List.set_cons_succ, List.set_cons_zero])
        refine wpE_take (i := 13) (oi := { dst := some 49, op := Go.Op.fieldAddr 51 (Go.Operand.tmp 12) 3, type := 0, pos := "law.go:41", after := #[], guard := none }) (v := ?_) rfl (by kernel_rfl) (fun _ _ _ h => h) (Or.inl ⟨by rfl, fun W hW => ?_⟩) hS ?_
        rotate_left
        · obtain ⟨hw1, hw2, hw3⟩ := hW; go_simp; (try go_bits); (try rw [if_pos (by omega)]); (try with_reducible rfl)
        (try simp only [Act.put, List.setIfInBounds_toArray, List.set_cons_succ, List.set_cons_zero])
        refine wpE_take (i := 14) (oi := { dst := some 50, op := Go.Op.load 23 (Go.Operand.tmp 49), type := 23, pos := "law.go:41", after := #[{ on := 13, ground := Go.Ground.data }], guard := none }) (v := ?_) rfl (by kernel_rfl) (fun _ _ _ h => h) (Or.inl ⟨by rfl, fun W hW => ?_⟩) hS ?_
        rotate_left
        · obtain ⟨hw1, hw2, hw3⟩ := hW; go_simp; (try go_bits); (try rw [if_pos (by omega)]); (try with_reducible rfl)
        (try simp only [Act.put, List.setIfInBounds_toArray, List.set_cons_succ, List.set_cons_zero])
        refine wpE_only (i := 7) (oi := { dst := some 43, op := Go.Op.call { callee := Go.Callee.value (Go.Operand.func 11), args := #[Go.Operand.tmp 36, Go.Operand.tmp 38, Go.Operand.tmp 40, Go.Operand.tmp 42], argTypes := #[42, 23, 3, 23] }, type := 4, pos := "law.go:41", after := #[{ on := 0, ground := Go.Ground.data }, { on := 2, ground := Go.Ground.data }, { on := 4, ground := Go.Ground.data }, { on := 6, ground := Go.Ground.data }], guard := none }) rfl (by kernel_rfl) (by rfl) (fun K hK => ?_)
        go_simp; refine HW.out.mono ?_; rintro y w3 ⟨rfl, own3, hS3, hD3⟩
        have hX3 := (((Step.refl (fun x => x ≠ 0 ∧ x ≠ 9) own2 w2).drew).trans hS3).blk H2.out.2.2.2.1 H2.out.2.2.2.2 (by decide)
        have x1 := hX3.1.cell 1
        have x2 := hX3.1.cell 2
        have x3 := hX3.1.cell 3
        simp only [List.getElem?_toArray, List.getElem?_cons_zero, List.getElem?_cons_succ] at x1 x2 x3
        have HW2 := Lib.hid (hD3.writeD xo hbo xz hbz xv hbv HS.out.2 HS.out.1)
        have H3 := Lib.hid (And.intro (H2.out.1.trans (((Step.refl (fun x => x ≠ 0 ∧ x ≠ 9) own2 w2).drew).trans hS3)) hX3)
        have hS : (fun (W' : World) => W'.cell? ⟨xb, 1, none⟩ = some (.int .i64 xz) ∧ W'.cell? ⟨xb, 2, none⟩ = some (.int .u64 (xo : Int)) ∧ W'.cell? ⟨xb, 3, none⟩ = some (.int .u64 (xv : Int))) w3 := ⟨x1, x2, x3⟩
        clear HW H2 hS3 hX3 hD3 x1 x2 x3
        refine hK _ _ hS ?_; clear hK K
        (try simp only [Act.put, List.setIfInBounds_toArray, List.set_cons_succ, List.set_cons_zero])
        refine wpE_only (i := 15) (oi := { dst := some 51, op := Go.Op.call { callee := Go.Callee.value (Go.Operand.func 48), args := #[Go.Operand.tmp 44, Go.Operand.tmp 46, Go.Operand.tmp 48, Go.Operand.tmp 50], argTypes := #[71, 23, 3, 23] }, type := 4, pos := "law.go:41", after := #[{ on := 8, ground := Go.Ground.data }, { on := 10, ground := Go.Ground.data }, { on := 12, ground := Go.Ground.data }, { on := 14, ground := Go.Ground.data }, { on := 7, ground := Go.Ground.chain }], guard := none }) rfl (by kernel_rfl) (by rfl) (fun K hK => ?_)
        go_simp; refine HW2.out.mono ?_; rintro y w4 ⟨rfl, own4, hS4, hD4⟩
        have hX4 := hS4.blk H3.out.2.1 H3.out.2.2 (by decide)
        have x1 := hX4.1.cell 1
        have x2 := hX4.1.cell 2
        have x3 := hX4.1.cell 3
        simp only [List.getElem?_toArray, List.getElem?_cons_zero, List.getElem?_cons_succ] at x1 x2 x3
        have hS : (fun (W' : World) => W'.cell? ⟨xb, 1, none⟩ = some (.int .i64 xz) ∧ W'.cell? ⟨xb, 2, none⟩ = some (.int .u64 (xo : Int)) ∧ W'.cell? ⟨xb, 3, none⟩ = some (.int .u64 (xv : Int))) w4 := ⟨x1, x2, x3⟩
        have H4 := Lib.hid (And.intro (H3.out.1.trans hS4) hD4)
        clear HW2 H3 hS4 hD4 hX4 x1 x2 x3
        refine hK _ _ hS ?_; clear hK K
        (try simp only [Act.put, List.setIfInBounds_toArray, List.set_cons_succ, List.set_cons_zero])
        refine wpE_last (oi := { dst := some 52, op := Go.Op.binOp Go.BinOp.neq 4 (Go.Operand.tmp 43) (Go.Operand.tmp 51) 4, type := 4, pos := "law.go:41", after := #[{ on := 7, ground := Go.Ground.data }, { on := 15, ground := Go.Ground.data }], guard := none }) rfl (by kernel_rfl) (by kernel_rfl) (by rfl) (fun K hK => ?_)
        go_simp; (try go_bits); refine hK _ _ ?_; clear hK K
        clear hS
        obtain ⟨hS, hD⟩ := H4.out
        have hsim := HS.out.2
        clear H4 HS
        generalize writeE s xo xz xv = s9 at *
        generalize writeD t xo xz xv = t9 at *
        have hb : ((t9.st : Int) == 1) = decide (s9.st = 1) := by
          rw [← hsim.st]
          by_cases h : s9.st = 1
          · rw [decide_eq_true h, h]; rfl
          · rw [decide_eq_false h]; simp; omega
        have hDd := hD.drew
        have hSd := hS.trans ((Step.refl (fun x => x ≠ 0 ∧ x ≠ 9) _ _).drew)
        have HBu := Lib.hid hDd.busy
        have r4 := hDd.reg4
        have hlq := hDd.lt
        have H9 := Lib.hid (show ∃ own' s t m, Step (fun x => x ≠ 0 ∧ x ≠ 9) own w own' w4.drew ∧ FD w0 own' w4.drew e q p p2 bs n s t m m ∧ SimE s t from ⟨_, _, _, _, hSd, hDd, hsim⟩)
        obtain ⟨BB, hBB⟩ : ∃ BB, decide (s9.st = 1) = BB := ⟨_, rfl⟩
        rw [hBB] at hb HBu
        clear hD hDd hS hSd hsim hBB
        go_wp2_with fail
        refine wpE_region (S := fun (W' : World) => W'.cell? ⟨q, 7, none⟩ = some (.int .u64 (t9.st : Int))) (s := 8) (by kernel_rfl) ?_
        have hS : (fun (W' : World) => W'.cell? ⟨q, 7, none⟩ = some (.int .u64 (t9.st : Int))) _ := r4
        refine wpE_take (i := 0) (oi := { dst := some 118, op := Go.Op.move (Go.Operand.tmp 0), type := 42, pos := "law.go:64", after := #[], guard := none }) (v := ?_) rfl (by kernel_rfl) (fun _ _ _ h => h) (Or.inl ⟨by rfl, fun W hW => ?_⟩) hS ?_
        rotate_left
        · (have hw1 : W.cell? ⟨q, 7, none⟩ = some (.int .u64 (t9.st : Int)) := hW); go_simp; (try go_bits); (try rw [if_pos (by omega)]); (try with_reducible rfl)
        (try simp only [Act.put, List.setIfInBounds_toArray, List.set_cons_succ, List.set_cons_zero])
        refine wpE_take (i := 2) (oi := { dst := some 120, op := Go.Op.move (Go.Operand.tmp 1), type := 71, pos := "law.go:64", after := #[], guard := none }) (v := ?_) rfl (by kernel_rfl) (fun _ _ _ h => h) (Or.inl ⟨by rfl, fun W hW => ?_⟩) hS ?_
        rotate_left
        · (have hw1 : W.cell? ⟨q, 7, none⟩ = some (.int .u64 (t9.st : Int)) := hW); go_simp; (try go_bits); (try rw [if_pos (by omega)]); (try with_reducible rfl)
        (try simp only [Act.put, List.setIfInBounds_toArray, List.set_cons_succ, List.set_cons_zero])
        refine wpE_take (i := 3) (oi := { dst := some 121, op := Go.Op.nilCheck (Go.Operand.tmp 120), type := 0, pos := "law.go:64", after := #[{ on := 2, ground := Go.Ground.data }], guard := none }) (v := ?_) rfl (by kernel_rfl) (fun _ _ _ h => h) (Or.inl ⟨by rfl, fun W hW => ?_⟩) hS ?_
        rotate_left
        · (have hw1 : W.cell? ⟨q, 7, none⟩ = some (.int .u64 (t9.st : Int)) := hW); go_simp; (try go_bits); (try rw [if_pos (by omega)]); (try with_reducible rfl)
        (try simp only [Act.put, List.setIfInBounds_toArray, List.set_cons_succ, List.set_cons_zero])
        refine wpE_take (i := 4) (oi := { dst := some 122, op := Go.Op.fieldAddr 74 (Go.Operand.tmp 121) 3, type := 0, pos := "law.go:64", after := #[{ on := 3, ground := Go.Ground.data }], guard := none }) (v := ?_) rfl (by kernel_rfl) (fun _ _ _ h => h) (Or.inl ⟨by rfl, fun W hW => ?_⟩) hS ?_
        rotate_left
        · (have hw1 : W.cell? ⟨q, 7, none⟩ = some (.int .u64 (t9.st : Int)) := hW); go_simp; (try go_bits); (try rw [if_pos (by omega)]); (try with_reducible rfl)
        (try simp only [Act.put, List.setIfInBounds_toArray, List.set_cons_succ, List.set_cons_zero])
        refine wpE_take (i := 5) (oi := { dst := some 123, op := Go.Op.indexAddr 72 (Go.Operand.tmp 122) (Go.Operand.const (Go.Value.int Go.IntKind.i64 4)), type := 0, pos := "law.go:64", after := #[{ on := 4, ground := Go.Ground.data }], guard := none }) (v := ?_) rfl (by kernel_rfl) (fun _ _ _ h => h) (Or.inl ⟨by rfl, fun W hW => ?_⟩) hS ?_
        rotate_left
        · (have hw1 : W.cell? ⟨q, 7, none⟩ = some (.int .u64 (t9.st : Int)) := hW); go_simp; (try go_bits); (try rw [if_pos (by omega)]); (try with_reducible rfl)
        (try simp only [Act.put, List.setIfInBounds_toArray, List.set_cons_succ, List.set_cons_zero])
        refine wpE_take (i := 6) (oi := { dst := some 124, op := Go.Op.load 23 (Go.Operand.tmp 123), type := 23, pos := "law.go:64", after := #[{ on := 5, ground := Go.Ground.data }], guard := none }) (v := ?_) rfl (by kernel_rfl) (fun _ _ _ h => h) (Or.inl ⟨by rfl, fun W hW => ?_⟩) hS ?_
        rotate_left
        · (have hw1 : W.cell? ⟨q, 7, none⟩ = some (.int .u64 (t9.st : Int)) := hW); go_simp; (try go_bits); (try rw [if_pos (by omega)]); (try with_reducible rfl)
        (try simp only [Act.put, List.setIfInBounds_toArray, List.set_cons_succ, List.set_cons_zero])
        refine wpE_take (i := 7) (oi := { dst := some 125, op := Go.Op.binOp Go.BinOp.eql 23 (Go.Operand.tmp 124) (Go.Operand.const (Go.Value.int Go.IntKind.u64 1)) 23, type := 4, pos := "law.go:64", after := #[{ on := 6, ground := Go.Ground.data }], guard := none }) (v := ?_) rfl (by kernel_rfl) (fun _ _ _ h => h) (Or.inl ⟨by rfl, fun W hW => ?_⟩) hS ?_
        rotate_left
        · (have hw1 : W.cell? ⟨q, 7, none⟩ = some (.int .u64 (t9.st : Int)) := hW); go_simp; (try go_bits); (try rw [if_pos (by omega)]); (try with_reducible rfl)
        (try simp only [Act.put, List.setIfInBounds_toArray, List.set_cons_succ, List.set_cons_zero])
        refine wpE_only (i := 1) (oi := { dst := some 119, op := Go.Op.call { callee := Go.Callee.value (Go.Operand.func 13), args := #[Go.Operand.tmp 118], argTypes := #[42] }, type := 4, pos := "law.go:64", after := #[{ on := 0, ground := Go.Ground.data }], guard := none }) rfl (by kernel_rfl) (by rfl) (fun K hK => ?_)
        go_simp; refine HBu.out.mono ?_; rintro y wz ⟨rfl, rfl⟩; refine hK _ _ hS ?_; clear hK K
        (try simp only [Act.put, List.setIfInBounds_toArray, List.set_cons_succ, List.set_cons_zero])
        refine wpE_last (oi := { dst := some 126, op := Go.Op.binOp Go.BinOp.neq 4 (Go.Operand.tmp 119) (Go.Operand.tmp 125) 4, type := 4, pos := "law.go:64", after := #[{ on := 1, ground := Go.Ground.data }, { on := 7, ground := Go.Ground.data }], guard := none }) rfl (by kernel_rfl) (by kernel_rfl) (by rfl) (fun K hK => ?_)
        go_simp; (try go_bits); refine hK _ _ ?_; clear hK K
        go_wp2
        exact ⟨⟨j + 1, by go_num, by omega, H9.out⟩, by simp [intOf]; omega⟩
      · have HR1 := Lib.hid (H2.out.2.1.read xo hbo xz hbz)
        go_wp2_with fail
        ((with_reducible refine HR1.out.mono ?_); rintro y w3 ⟨rfl, own3, hS3, hD3⟩)
        have hX3 := hS3.blk H2.out.2.2.2.1 H2.out.2.2.2.2 (by decide)
        have x1' := hX3.1.cell 1
        have x2' := hX3.1.cell 2
        simp only [List.getElem?_toArray, List.getElem?_cons_zero, List.getElem?_cons_succ] at x1' x2'
        have hR2 := hD3.readD xo hbo xz hbz
        rw [← H2.out.2.2.1.read] at hR2
        have HR2 := Lib.hid hR2
        have H3 := Lib.hid (And.intro (H2.out.1.trans hS3) (And.intro hD3 H2.out.2.2.1))
        clear HR1 hS3 hD3 hX3 hR2 H2 x1 x2 x3
        go_wp2_with fail
        ((with_reducible refine HR2.out.mono ?_); rintro y wz ⟨rfl, rfl⟩)
        clear HR2
        obtain ⟨hS, hD, hsim⟩ := H3.out
        clear H3 x1' x2'
        generalize readE s xo xz = RV at *
        generalize s = s9 at *
        generalize t = t9 at *
        have hb : ((t9.st : Int) == 1) = decide (s9.st = 1) := by
          rw [← hsim.st]
          by_cases h : s9.st = 1
          · rw [decide_eq_true h, h]; rfl
          · rw [decide_eq_false h]; simp; omega
        have hDd := hD.drew
        have hSd := hS.trans ((Step.refl (fun x => x ≠ 0 ∧ x ≠ 9) _ _).drew)
        have HBu := Lib.hid hDd.busy
        have r4 := hDd.reg4
        have hlq := hDd.lt
        have H9 := Lib.hid (show ∃ own' s t m, Step (fun x => x ≠ 0 ∧ x ≠ 9) own w own' w3.drew ∧ FD w0 own' w3.drew e q p p2 bs n s t m m ∧ SimE s t from ⟨_, _, _, _, hSd, hDd, hsim⟩)
        obtain ⟨BB, hBB⟩ : ∃ BB, decide (s9.st = 1) = BB := ⟨_, rfl⟩
        rw [hBB] at hb HBu
        clear hD hDd hS hSd hsim hBB
        go_wp2_with fail
        refine wpE_region (S := fun (W' : World) => W'.cell? ⟨q, 7, none⟩ = some (.int .u64 (t9.st : Int))) (s := 8) (by kernel_rfl) ?_
        have hS : (fun (W' : World) => W'.cell? ⟨q, 7, none⟩ = some (.int .u64 (t9.st : Int))) _ := r4
        refine wpE_take (i := 0) (oi := { dst := some 118, op := Go.Op.move (Go.Operand.tmp 0), type := 42, pos := "law.go:64", after := #[], guard := none }) (v := ?_) rfl (by kernel_rfl) (fun _ _ _ h => h) (Or.inl ⟨by rfl, fun W hW => ?_⟩) hS ?_
        rotate_left
        · (have hw1 : W.cell? ⟨q, 7, none⟩ = some (.int .u64 (t9.st : Int)) := hW); go_simp; (try go_bits); (try rw [if_pos (by omega)]); (try with_reducible rfl)
        (try simp only [Act.put, List.setIfInBounds_toArray, List.set_cons_succ, List.set_cons_zero])
        refine wpE_take (i := 2) (oi := { dst := some 120, op := Go.Op.move (Go.Operand.tmp 1), type := 71, pos := "law.go:64", after := #[], guard := none }) (v := ?_) rfl (by kernel_rfl) (fun _ _ _ h => h) (Or.inl ⟨by rfl, fun W hW => ?_⟩) hS ?_
        rotate_left
        · (have hw1 : W.cell? ⟨q, 7, none⟩ = some (.int .u64 (t9.st : Int)) := hW); go_simp; (try go_bits); (try rw [if_pos (by omega)]); (try with_reducible rfl)
        (try simp only [Act.put, List.setIfInBounds_toArray, List.set_cons_succ, List.set_cons_zero])
        refine wpE_take (i := 3) (oi := { dst := some 121, op := Go.Op.nilCheck (Go.Operand.tmp 120), type := 0, pos := "law.go:64", after := #[{ on := 2, ground := Go.Ground.data }], guard := none }) (v := ?_) rfl (by kernel_rfl) (fun _ _ _ h => h) (Or.inl ⟨by rfl, fun W hW => ?_⟩) hS ?_
        rotate_left
        · (have hw1 : W.cell? ⟨q, 7, none⟩ = some (.int .u64 (t9.st : Int)) := hW); go_simp; (try go_bits); (try rw [if_pos (by omega)]); (try with_reducible rfl)
        (try simp only [Act.put, List.setIfInBounds_toArray, List.set_cons_succ, List.set_cons_zero])
        refine wpE_take (i := 4) (oi := { dst := some 122, op := Go.Op.fieldAddr 74 (Go.Operand.tmp 121) 3, type := 0, pos := "law.go:64", after := #[{ on := 3, ground := Go.Ground.data }], guard := none }) (v := ?_) rfl (by kernel_rfl) (fun _ _ _ h => h) (Or.inl ⟨by rfl, fun W hW => ?_⟩) hS ?_
        rotate_left
        · (have hw1 : W.cell? ⟨q, 7, none⟩ = some (.int .u64 (t9.st : Int)) := hW); go_simp; (try go_bits); (try rw [if_pos (by omega)]); (try with_reducible rfl)
        (try simp only [Act.put, List.setIfInBounds_toArray, List.set_cons_succ, List.set_cons_zero])
        refine wpE_take (i := 5) (oi := { dst := some 123, op := Go.Op.indexAddr 72 (Go.Operand.tmp 122) (Go.Operand.const (Go.Value.int Go.IntKind.i64 4)), type := 0, pos := "law.go:64", after := #[{ on := 4, ground := Go.Ground.data }], guard := none }) (v := ?_) rfl (by kernel_rfl) (fun _ _ _ h => h) (Or.inl ⟨by rfl, fun W hW => ?_⟩) hS ?_
        rotate_left
        · (have hw1 : W.cell? ⟨q, 7, none⟩ = some (.int .u64 (t9.st : Int)) := hW); go_simp; (try go_bits); (try rw [if_pos (by omega)]); (try with_reducible rfl)
        (try simp only [Act.put, List.setIfInBounds_toArray, List.set_cons_succ, List.set_cons_zero])
        refine wpE_take (i := 6) (oi := { dst := some 124, op := Go.Op.load 23 (Go.Operand.tmp 123), type := 23, pos := "law.go:64", after := #[{ on := 5, ground := Go.Ground.data }], guard := none }) (v := ?_) rfl (by kernel_rfl) (fun _ _ _ h => h) (Or.inl ⟨by rfl, fun W hW => ?_⟩) hS ?_
        rotate_left
        · (have hw1 : W.cell? ⟨q, 7, none⟩ = some (.int .u64 (t9.st : Int)) := hW); go_simp; (try go_bits); (try rw [if_pos (by omega)]); (try with_reducible rfl)
        (try simp only [Act.put, List.setIfInBounds_toArray, List.set_cons_succ, List.set_cons_zero])
        refine wpE_take (i := 7) (oi := { dst := some 125, op := Go.Op.binOp Go.BinOp.eql 23 (Go.Operand.tmp 124) (Go.Operand.const (Go.Value.int Go.IntKind.u64 1)) 23, type := 4, pos := "law.go:64", after := #[{ on := 6, ground := Go.Ground.data }], guard := none }) (v := ?_) rfl (by kernel_rfl) (fun _ _ _ h => h) (Or.inl ⟨by rfl, fun W hW => ?_⟩) hS ?_
        rotate_left
        · (have hw1 : W.cell? ⟨q, 7, none⟩ = some (.int .u64 (t9.st : Int)) := hW); go_simp; (try go_bits); (try rw [if_pos (by omega)]); (try with_reducible rfl)
        (try simp only [Act.put, List.setIfInBounds_toArray, List.set_cons_succ, List.set_cons_zero])
        refine wpE_only (i := 1) (oi := { dst := some 119, op := Go.Op.call { callee := Go.Callee.value (Go.Operand.func 13), args := #[Go.Operand.tmp 118], argTypes := #[42] }, type := 4, pos := "law.go:64", after := #[{ on := 0, ground := Go.Ground.data }], guard := none }) rfl (by kernel_rfl) (by rfl) (fun K hK => ?_)
        go_simp; refine HBu.out.mono ?_; rintro y wz ⟨rfl, rfl⟩; refine hK _ _ hS ?_; clear hK K
        (try simp only [Act.put, List.setIfInBounds_toArray, List.set_cons_succ, List.set_cons_zero])
        refine wpE_last (oi := { dst := some 126, op := Go.Op.binOp Go.BinOp.neq 4 (Go.Operand.tmp 119) (Go.Operand.tmp 125) 4, type := 4, pos := "law.go:64", after := #[{ on := 1, ground := Go.Ground.data }, { on := 7, ground := Go.Ground.data }], guard := none }) rfl (by kernel_rfl) (by kernel_rfl) (by rfl) (fun K hK => ?_)
        go_simp; (try go_bits); refine hK _ _ ?_; clear hK K
        go_wp2
        exact ⟨⟨j + 1, by go_num, by omega, H9.out⟩, by simp [intOf]; omega⟩
      · have hsim2 := H2.out.2.2.1.stepF bs n
        have hR := H2.out.2.2.1.stepFR bs n
        have hMM := H2.out.2.2.1.stepFM bs n m
        have hok2 := H2.out.2.1.f.ok.step bs n
        have hcp2 := stepS_cp H2.out.2.1.k bs n
        have HS1 := Lib.hid H2.out.2.1.stepE
        have HS := Lib.hid (And.intro hsim2 (And.intro hR (And.intro hMM (And.intro hok2 hcp2))))
        clear hsim2 hR hMM hok2 hcp2
        go_wp2_with fail
        ((with_reducible refine HS1.out.mono ?_); rintro y w3 ⟨rfl, own3, hS3, hD3⟩)
        have hSb : Step (fun x => x ≠ 0 ∧ x ≠ 9) own3 w3 (ext own3 w3 9) (w3.alloc (.cells #[.int .i64 (stepR bs n s).1, .int .i64 (stepR bs n s).2.1] 47)) := ⟨(Upd.refl _ _).alloc _, fun b hb => ext_old _ _ _ hb⟩
        have hB3 := Blk.new w3 47 #[.int .i64 (stepR bs n s).1, .int .i64 (stepR bs n s).2.1]
        have ho3 : ext own3 w3 9 w3.heap.size = 9 := ext_new _ _ _ (Nat.le_refl _)
        have hD3b := hD3.alloc (.cells #[.int .i64 (stepR bs n s).1, .int .i64 (stepR bs n s).2.1] 47) 9
        have hS2 := hD3b.stepD HS.out.1 HS.out.2.2.2.1 HS.out.2.2.2.2
        rw [← HS.out.2.1] at hS2
        have HS2 := Lib.hid hS2
        have H3 := Lib.hid (And.intro ((H2.out.1.trans hS3).trans hSb) (And.intro hB3 ho3))
        clear HS1 hS3 hD3 hSb hB3 ho3 hD3b hS2 H2 x1 x2 x3
        obtain ⟨R3, hR3⟩ : ∃ R3, stepR bs n s = R3 := ⟨_, rfl⟩
        rw [hR3] at H3 HS2 ⊢
        clear hR3
        go_wp2_with fail
        ((with_reducible refine HS2.out.mono ?_); rintro y w4 ⟨rfl, own4, hS4, hD4⟩)
        have hX4 := hS4.blk H3.out.2.1 H3.out.2.2 (by decide)
        have hSb : Step (fun x => x ≠ 0 ∧ x ≠ 9) own4 w4 (ext own4 w4 9) (w4.alloc (.cells #[.int .i64 R3.1, .int .i64 R3.2.1] 47)) := ⟨(Upd.refl _ _).alloc _, fun b hb => ext_old _ _ _ hb⟩
        have hB4 := Blk.new w4 47 #[.int .i64 R3.1, .int .i64 R3.2.1]
        have hX5 := hSb.blk hX4.1 hX4.2 (by decide)
        have hD := hD4.alloc (.cells #[.int .i64 R3.1, .int .i64 R3.2.1] 47) 9
        rw [HS.out.2.2.1] at hD
        have hS := (H3.out.1.trans hS4).trans hSb
        have hsim := HS.out.1
        have y0 := hX5.1.cell 0
        have y1 := hX5.1.cell 1
        have z0 := hB4.cell 0
        have z1 := hB4.cell 1
        simp only [List.getElem?_toArray, List.getElem?_cons_zero, List.getElem?_cons_succ] at y0 y1 z0 z1
        clear HS2 hS4 hD4 hX4 hSb hB4 hX5 H3 HS
        generalize hw5 : w4.alloc (.cells #[.int .i64 R3.1, .int .i64 R3.2.1] 47) = w5 at *
        generalize ext own4 w4 9 = own5 at *
        generalize stepS bs n s = s9 at *
        generalize stepM bs n t m = m9 at *
        generalize stepS bs n t = t9 at *
        have hb : ((t9.st : Int) == 1) = decide (s9.st = 1) := by
          rw [← hsim.st]
          by_cases h : s9.st = 1
          · rw [decide_eq_true h, h]; rfl
          · rw [decide_eq_false h]; simp; omega
        have hDd := hD.drew
        have hSd := hS.trans ((Step.refl (fun x => x ≠ 0 ∧ x ≠ 9) _ _).drew)
        have HBu := Lib.hid hDd.busy
        have r4 := hDd.reg4
        have hlq := hDd.lt
        have H9 := Lib.hid (show ∃ own' s t m, Step (fun x => x ≠ 0 ∧ x ≠ 9) own w own' w5.drew ∧ FD w0 own' w5.drew e q p p2 bs n s t m m ∧ SimE s t from ⟨_, _, _, _, hSd, hDd, hsim⟩)
        obtain ⟨BB, hBB⟩ : ∃ BB, decide (s9.st = 1) = BB := ⟨_, rfl⟩
        rw [hBB] at hb HBu
        clear hD hDd hS hSd hsim hBB
        go_wp2_with fail
        refine wpE_region (S := fun (W' : World) => W'.cell? ⟨q, 7, none⟩ = some (.int .u64 (t9.st : Int))) (s := 8) (by kernel_rfl) ?_
        have hS : (fun (W' : World) => W'.cell? ⟨q, 7, none⟩ = some (.int .u64 (t9.st : Int))) _ := r4
        refine wpE_take (i := 0) (oi := { dst := some 118, op := Go.Op.move (Go.Operand.tmp 0), type := 42, pos := "law.go:64", after := #[], guard := none }) (v := ?_) rfl (by kernel_rfl) (fun _ _ _ h => h) (Or.inl ⟨by rfl, fun W hW => ?_⟩) hS ?_
        rotate_left
        · (have hw1 : W.cell? ⟨q, 7, none⟩ = some (.int .u64 (t9.st : Int)) := hW); go_simp; (try go_bits); (try rw [if_pos (by omega)]); (try with_reducible rfl)
        (try simp only [Act.put, List.setIfInBounds_toArray, List.set_cons_succ, List.set_cons_zero])
        refine wpE_take (i := 2) (oi := { dst := some 120, op := Go.Op.move (Go.Operand.tmp 1), type := 71, pos := "law.go:64", after := #[], guard := none }) (v := ?_) rfl (by kernel_rfl) (fun _ _ _ h => h) (Or.inl ⟨by rfl, fun W hW => ?_⟩) hS ?_
        rotate_left
        · (have hw1 : W.cell? ⟨q, 7, none⟩ = some (.int .u64 (t9.st : Int)) := hW); go_simp; (try go_bits); (try rw [if_pos (by omega)]); (try with_reducible rfl)
        (try simp only [Act.put, List.setIfInBounds_toArray, List.set_cons_succ, List.set_cons_zero])
        refine wpE_take (i := 3) (oi := { dst := some 121, op := Go.Op.nilCheck (Go.Operand.tmp 120), type := 0, pos := "law.go:64", after := #[{ on := 2, ground := Go.Ground.data }], guard := none }) (v := ?_) rfl (by kernel_rfl) (fun _ _ _ h => h) (Or.inl ⟨by rfl, fun W hW => ?_⟩) hS ?_
        rotate_left
        · (have hw1 : W.cell? ⟨q, 7, none⟩ = some (.int .u64 (t9.st : Int)) := hW); go_simp; (try go_bits); (try rw [if_pos (by omega)]); (try with_reducible rfl)
        (try simp only [Act.put, List.setIfInBounds_toArray, List.set_cons_succ, List.set_cons_zero])
        refine wpE_take (i := 4) (oi := { dst := some 122, op := Go.Op.fieldAddr 74 (Go.Operand.tmp 121) 3, type := 0, pos := "law.go:64", after := #[{ on := 3, ground := Go.Ground.data }], guard := none }) (v := ?_) rfl (by kernel_rfl) (fun _ _ _ h => h) (Or.inl ⟨by rfl, fun W hW => ?_⟩) hS ?_
        rotate_left
        · (have hw1 : W.cell? ⟨q, 7, none⟩ = some (.int .u64 (t9.st : Int)) := hW); go_simp; (try go_bits); (try rw [if_pos (by omega)]); (try with_reducible rfl)
        (try simp only [Act.put, List.setIfInBounds_toArray, List.set_cons_succ, List.set_cons_zero])
        refine wpE_take (i := 5) (oi := { dst := some 123, op := Go.Op.indexAddr 72 (Go.Operand.tmp 122) (Go.Operand.const (Go.Value.int Go.IntKind.i64 4)), type := 0, pos := "law.go:64", after := #[{ on := 4, ground := Go.Ground.data }], guard := none }) (v := ?_) rfl (by kernel_rfl) (fun _ _ _ h => h) (Or.inl ⟨by rfl, fun W hW => ?_⟩) hS ?_
        rotate_left
        · (have hw1 : W.cell? ⟨q, 7, none⟩ = some (.int .u64 (t9.st : Int)) := hW); go_simp; (try go_bits); (try rw [if_pos (by omega)]); (try with_reducible rfl)
        (try simp only [Act.put, List.setIfInBounds_toArray, List.set_cons_succ, List.set_cons_zero])
        refine wpE_take (i := 6) (oi := { dst := some 124, op := Go.Op.load 23 (Go.Operand.tmp 123), type := 23, pos := "law.go:64", after := #[{ on := 5, ground := Go.Ground.data }], guard := none }) (v := ?_) rfl (by kernel_rfl) (fun _ _ _ h => h) (Or.inl ⟨by rfl, fun W hW => ?_⟩) hS ?_
        rotate_left
        · (have hw1 : W.cell? ⟨q, 7, none⟩ = some (.int .u64 (t9.st : Int)) := hW); go_simp; (try go_bits); (try rw [if_pos (by omega)]); (try with_reducible rfl)
        (try simp only [Act.put, List.setIfInBounds_toArray, List.set_cons_succ, List.set_cons_zero])
        refine wpE_take (i := 7) (oi := { dst := some 125, op := Go.Op.binOp Go.BinOp.eql 23 (Go.Operand.tmp 124) (Go.Operand.const (Go.Value.int Go.IntKind.u64 1)) 23, type := 4, pos := "law.go:64", after := #[{ on := 6, ground := Go.Ground.data }], guard := none }) (v := ?_) rfl (by kernel_rfl) (fun _ _ _ h => h) (Or.inl ⟨by rfl, fun W hW => ?_⟩) hS ?_
        rotate_left
        · (have hw1 : W.cell? ⟨q, 7, none⟩ = some (.int .u64 (t9.st : Int)) := hW); go_simp; (try go_bits); (try rw [if_pos (by omega)]); (try with_reducible rfl)
        (try simp only [Act.put, List.setIfInBounds_toArray, List.set_cons_succ, List.set_cons_zero])
        refine wpE_only (i := 1) (oi := { dst := some 119, op := Go.Op.call { callee := Go.Callee.value (Go.Operand.func 13), args := #[Go.Operand.tmp 118], argTypes := #[42] }, type := 4, pos := "law.go:64", after := #[{ on := 0, ground := Go.Ground.data }], guard := none }) rfl (by kernel_rfl) (by rfl) (fun K hK => ?_)
        go_simp; refine HBu.out.mono ?_; rintro y wz ⟨rfl, rfl⟩; refine hK _ _ hS ?_; clear hK K
        (try simp only [Act.put, List.setIfInBounds_toArray, List.set_cons_succ, List.set_cons_zero])
        refine wpE_last (oi := { dst := some 126, op := Go.Op.binOp Go.BinOp.neq 4 (Go.Operand.tmp 119) (Go.Operand.tmp 125) 4, type := 4, pos := "law.go:64", after := #[{ on := 1, ground := Go.Ground.data }, { on := 7, ground := Go.Ground.data }], guard := none }) rfl (by kernel_rfl) (by kernel_rfl) (by rfl) (fun K hK => ?_)
        go_simp; (try go_bits); refine hK _ _ ?_; clear hK K
        go_wp2
        exact ⟨⟨j + 1, by go_num, by omega, H9.out⟩, by simp [intOf]; omega⟩
      · have HR1 := Lib.hid H2.out.2.1.reset
        go_wp2_with fail
        ((with_reducible refine HR1.out.mono ?_); rintro y w3 ⟨rfl, own3, hS3, hD3⟩)
        have HR2 := Lib.hid hD3.resetD
        have H3 := Lib.hid (H2.out.1.trans hS3)
        clear HR1 hS3 hD3 H2 x1 x2 x3
        go_wp2_with fail
        ((with_reducible refine HR2.out.mono ?_); rintro y w4 ⟨rfl, own4, hS4, hD⟩)
        have hS := H3.out.trans hS4
        have hsim := SimE.init
        clear HR2 H3 hS4
        generalize hs9 : eg0 = s9 at *
        have t9e : s9 = s9 := rfl
        have hb : ((s9.st : Int) == 1) = decide (s9.st = 1) := by
          rw [← hsim.st]
          by_cases h : s9.st = 1
          · rw [decide_eq_true h, h]; rfl
          · rw [decide_eq_false h]; simp; omega
        have hDd := hD.drew
        have hSd := hS.trans ((Step.refl (fun x => x ≠ 0 ∧ x ≠ 9) _ _).drew)
        have HBu := Lib.hid hDd.busy
        have r4 := hDd.reg4
        have hlq := hDd.lt
        have H9 := Lib.hid (show ∃ own' s t m, Step (fun x => x ≠ 0 ∧ x ≠ 9) own w own' w4.drew ∧ FD w0 own' w4.drew e q p p2 bs n s t m m ∧ SimE s t from ⟨_, _, _, _, hSd, hDd, hsim⟩)
        obtain ⟨BB, hBB⟩ : ∃ BB, decide (s9.st = 1) = BB := ⟨_, rfl⟩
        rw [hBB] at hb HBu
        clear hD hDd hS hSd hsim hBB
        go_wp2_with fail
        refine wpE_region (S := fun (W' : World) => W'.cell? ⟨q, 7, none⟩ = some (.int .u64 (s9.st : Int))) (s := 8) (by kernel_rfl) ?_
        have hS : (fun (W' : World) => W'.cell? ⟨q, 7, none⟩ = some (.int .u64 (s9.st : Int))) _ := r4
        refine wpE_take (i := 0) (oi := { dst := some 118, op := Go.Op.move (Go.Operand.tmp 0), type := 42, pos := "law.go:64", after := #[], guard := none }) (v := ?_) rfl (by kernel_rfl) (fun _ _ _ h => h) (Or.inl ⟨by rfl, fun W hW => ?_⟩) hS ?_
        rotate_left
        · (have hw1 : W.cell? ⟨q, 7, none⟩ = some (.int .u64 (s9.st : Int)) := hW); go_simp; (try go_bits); (try rw [if_pos (by omega)]); (try with_reducible rfl)
        (try simp only [Act.put, List.setIfInBounds_toArray, List.set_cons_succ, List.set_cons_zero])
        refine wpE_take (i := 2) (oi := { dst := some 120, op := Go.Op.move (Go.Operand.tmp 1), type := 71, pos := "law.go:64", after := #[], guard := none }) (v := ?_) rfl (by kernel_rfl) (fun _ _ _ h => h) (Or.inl ⟨by rfl, fun W hW => ?_⟩) hS ?_
        rotate_left
        · (have hw1 : W.cell? ⟨q, 7, none⟩ = some (.int .u64 (s9.st : Int)) := hW); go_simp; (try go_bits); (try rw [if_pos (by omega)]); (try with_reducible rfl)
        (try simp only [Act.put, List.setIfInBounds_toArray, List.set_cons_succ, List.set_cons_zero])
        refine wpE_take (i := 3) (oi := { dst := some 121, op := Go.Op.nilCheck (Go.Operand.tmp 120), type := 0, pos := "law.go:64", after := #[{ on := 2, ground := Go.Ground.data }], guard := none }) (v := ?_) rfl (by kernel_rfl) (fun _ _ _ h => h) (Or.inl ⟨by rfl, fun W hW => ?_⟩) hS ?_
        rotate_left
        · (have hw1 : W.cell? ⟨q, 7, none⟩ = some (.int .u64 (s9.st : Int)) := hW); go_simp; (try go_bits); (try rw [if_pos (by omega)]); (try with_reducible rfl)
        (try simp only [Act.put, List.setIfInBounds_toArray, List.set_cons_succ, List.set_cons_zero])
        refine wpE_take (i := 4) (oi := { dst := some 122, op := Go.Op.fieldAddr 74 (Go.Operand.tmp 121) 3, type := 0, pos := "law.go:64", after := #[{ on := 3, ground := Go.Ground.data }], guard := none }) (v := ?_) rfl (by kernel_rfl) (fun _ _ _ h => h) (Or.inl ⟨by rfl, fun W hW => ?_⟩) hS ?_
        rotate_left
        · (have hw1 : W.cell? ⟨q, 7, none⟩ = some (.int .u64 (s9.st : Int)) := hW); go_simp; (try go_bits); (try rw [if_pos (by omega)]); (try with_reducible rfl)
        (try simp only [Act.put, List.setIfInBounds_toArray, List.set_cons_succ, List.set_cons_zero])
        refine wpE_take (i := 5) (oi := { dst := some 123, op := Go.Op.indexAddr 72 (Go.Operand.tmp 122) (Go.Operand.const (Go.Value.int Go.IntKind.i64 4)), type := 0, pos := "law.go:64", after := #[{ on := 4, ground := Go.Ground.data }], guard := none }) (v := ?_) rfl (by kernel_rfl) (fun _ _ _ h => h) (Or.inl ⟨by rfl, fun W hW => ?_⟩) hS ?_
        rotate_left
        · (have hw1 : W.cell? ⟨q, 7, none⟩ = some (.int .u64 (s9.st : Int)) := hW); go_simp; (try go_bits); (try rw [if_pos (by omega)]); (try with_reducible rfl)
        (try simp only [Act.put, List.setIfInBounds_toArray, List.set_cons_succ, List.set_cons_zero])
        refine wpE_take (i := 6) (oi := { dst := some 124, op := Go.Op.load 23 (Go.Operand.tmp 123), type := 23, pos := "law.go:64", after := #[{ on := 5, ground := Go.Ground.data }], guard := none }) (v := ?_) rfl (by kernel_rfl) (fun _ _ _ h => h) (Or.inl ⟨by rfl, fun W hW => ?_⟩) hS ?_
        rotate_left
        · (have hw1 : W.cell? ⟨q, 7, none⟩ = some (.int .u64 (s9.st : Int)) := hW); go_simp; (try go_bits); (try rw [if_pos (by omega)]); (try with_reducible rfl)
        (try simp only [Act.put, List.setIfInBounds_toArray, List.set_cons_succ, List.set_cons_zero])
        refine wpE_take (i := 7) (oi := { dst := some 125, op := Go.Op.binOp Go.BinOp.eql 23 (Go.Operand.tmp 124) (Go.Operand.const (Go.Value.int Go.IntKind.u64 1)) 23, type := 4, pos := "law.go:64", after := #[{ on := 6, ground := Go.Ground.data }], guard := none }) (v := ?_) rfl (by kernel_rfl) (fun _ _ _ h => h) (Or.inl ⟨by rfl, fun W hW => ?_⟩) hS ?_
        rotate_left
        · (have hw1 : W.cell? ⟨q, 7, none⟩ = some (.int .u64 (s9.st : Int)) := hW); go_simp; (try go_bits); (try rw [if_pos (by omega)]); (try with_reducible rfl)
        (try simp only [Act.put, List.setIfInBounds_toArray, List.set_cons_succ, List.set_cons_zero])
        refine wpE_only (i := 1) (oi := { dst := some 119, op := Go.Op.call { callee := Go.Callee.value (Go.Operand.func 13), args := #[Go.Operand.tmp 118], argTypes := #[42] }, type := 4, pos := "law.go:64", after := #[{ on := 0, ground := Go.Ground.data }], guard := none }) rfl (by kernel_rfl) (by rfl) (fun K hK => ?_)
        go_simp; refine HBu.out.mono ?_; rintro y wz ⟨rfl, rfl⟩; refine hK _ _ hS ?_; clear hK K
        (try simp only [Act.put, List.setIfInBounds_toArray, List.set_cons_succ, List.set_cons_zero])
        refine wpE_last (oi := { dst := some 126, op := Go.Op.binOp Go.BinOp.neq 4 (Go.Operand.tmp 119) (Go.Operand.tmp 125) 4, type := 4, pos := "law.go:64", after := #[{ on := 1, ground := Go.Ground.data }, { on := 7, ground := Go.Ground.data }], guard := none }) rfl (by kernel_rfl) (by kernel_rfl) (by rfl) (fun K hK => ?_)
        go_simp; (try go_bits); refine hK _ _ ?_; clear hK K
        go_wp2
        exact ⟨⟨j + 1, by go_num, by omega, H9.out⟩, by simp [intOf]; omega⟩
      · obtain ⟨hS, hD, hsim, _⟩ := H2.out
        clear H2 x1 x2 x3
        generalize s = s9 at *
        generalize t = t9 at *
        have hb : ((t9.st : Int) == 1) = decide (s9.st = 1) := by
          rw [← hsim.st]
          by_cases h : s9.st = 1
          · rw [decide_eq_true h, h]; rfl
          · rw [decide_eq_false h]; simp; omega
        have hDd := hD.drew
        have hSd := hS.trans ((Step.refl (fun x => x ≠ 0 ∧ x ≠ 9) _ _).drew)
        have HBu := Lib.hid hDd.busy
        have r4 := hDd.reg4
        have hlq := hDd.lt
        have H9 := Lib.hid (show ∃ own' s t m, Step (fun x => x ≠ 0 ∧ x ≠ 9) own w own' w2.drew ∧ FD w0 own' w2.drew e q p p2 bs n s t m m ∧ SimE s t from ⟨_, _, _, _, hSd, hDd, hsim⟩)
        obtain ⟨BB, hBB⟩ : ∃ BB, decide (s9.st = 1) = BB := ⟨_, rfl⟩
        rw [hBB] at hb HBu
        clear hD hDd hS hSd hsim hBB
        go_wp2_with fail
        refine wpE_region (S := fun (W' : World) => W'.cell? ⟨q, 7, none⟩ = some (.int .u64 (t9.st : Int))) (s := 8) (by kernel_rfl) ?_
        have hS : (fun (W' : World) => W'.cell? ⟨q, 7, none⟩ = some (.int .u64 (t9.st : Int))) _ := r4
        refine wpE_take (i := 0) (oi := { dst := some 118, op := Go.Op.move (Go.Operand.tmp 0), type := 42, pos := "law.go:64", after := #[], guard := none }) (v := ?_) rfl (by kernel_rfl) (fun _ _ _ h => h) (Or.inl ⟨by rfl, fun W hW => ?_⟩) hS ?_
        rotate_left
        · (have hw1 : W.cell? ⟨q, 7, none⟩ = some (.int .u64 (t9.st : Int)) := hW); go_simp; (try go_bits); (try rw [if_pos (by omega)]); (try with_reducible rfl)
        (try simp only [Act.put, List.setIfInBounds_toArray, List.set_cons_succ, List.set_cons_zero])
        refine wpE_take (i := 2) (oi := { dst := some 120, op := Go.Op.move (Go.Operand.tmp 1), type := 71, pos := "law.go:64", after := #[], guard := none }) (v := ?_) rfl (by kernel_rfl) (fun _ _ _ h => h) (Or.inl ⟨by rfl, fun W hW => ?_⟩) hS ?_
        rotate_left
        · (have hw1 : W.cell? ⟨q, 7, none⟩ = some (.int .u64 (t9.st : Int)) := hW); go_simp; (try go_bits); (try rw [if_pos (by omega)]); (try with_reducible rfl)
        (try simp only [Act.put, List.setIfInBounds_toArray, List.set_cons_succ, List.set_cons_zero])
        refine wpE_take (i := 3) (oi := { dst := some 121, op := Go.Op.nilCheck (Go.Operand.tmp 120), type := 0, pos := "law.go:64", after := #[{ on := 2, ground := Go.Ground.data }], guard := none }) (v := ?_) rfl (by kernel_rfl) (fun _ _ _ h => h) (Or.inl ⟨by rfl, fun W hW => ?_⟩) hS ?_
        rotate_left
        · (have hw1 : W.cell? ⟨q, 7, none⟩ = some (.int .u64 (t9.st : Int)) := hW); go_simp; (try go_bits); (try rw [if_pos (by omega)]); (try with_reducible rfl)
        (try simp only [Act.put, List.setIfInBounds_toArray, List.set_cons_succ, List.set_cons_zero])
        refine wpE_take (i := 4) (oi := { dst := some 122, op := Go.Op.fieldAddr 74 (Go.Operand.tmp 121) 3, type := 0, pos := "law.go:64", after := #[{ on := 3, ground := Go.Ground.data }], guard := none }) (v := ?_) rfl (by kernel_rfl) (fun _ _ _ h => h) (Or.inl ⟨by rfl, fun W hW => ?_⟩) hS ?_
        rotate_left
        · (have hw1 : W.cell? ⟨q, 7, none⟩ = some (.int .u64 (t9.st : Int)) := hW); go_simp; (try go_bits); (try rw [if_pos (by omega)]); (try with_reducible rfl)
        (try simp only [Act.put, List.setIfInBounds_toArray, List.set_cons_succ, List.set_cons_zero])
        refine wpE_take (i := 5) (oi := { dst := some 123, op := Go.Op.indexAddr 72 (Go.Operand.tmp 122) (Go.Operand.const (Go.Value.int Go.IntKind.i64 4)), type := 0, pos := "law.go:64", after := #[{ on := 4, ground := Go.Ground.data }], guard := none }) (v := ?_) rfl (by kernel_rfl) (fun _ _ _ h => h) (Or.inl ⟨by rfl, fun W hW => ?_⟩) hS ?_
        rotate_left
        · (have hw1 : W.cell? ⟨q, 7, none⟩ = some (.int .u64 (t9.st : Int)) := hW); go_simp; (try go_bits); (try rw [if_pos (by omega)]); (try with_reducible rfl)
        (try simp only [Act.put, List.setIfInBounds_toArray, List.set_cons_succ, List.set_cons_zero])
        refine wpE_take (i := 6) (oi := { dst := some 124, op := Go.Op.load 23 (Go.Operand.tmp 123), type := 23, pos := "law.go:64", after := #[{ on := 5, ground := Go.Ground.data }], guard := none }) (v := ?_) rfl (by kernel_rfl) (fun _ _ _ h => h) (Or.inl ⟨by rfl, fun W hW => ?_⟩) hS ?_
        rotate_left
        · (have hw1 : W.cell? ⟨q, 7, none⟩ = some (.int .u64 (t9.st : Int)) := hW); go_simp; (try go_bits); (try rw [if_pos (by omega)]); (try with_reducible rfl)
        (try simp only [Act.put, List.setIfInBounds_toArray, List.set_cons_succ, List.set_cons_zero])
        refine wpE_take (i := 7) (oi := { dst := some 125, op := Go.Op.binOp Go.BinOp.eql 23 (Go.Operand.tmp 124) (Go.Operand.const (Go.Value.int Go.IntKind.u64 1)) 23, type := 4, pos := "law.go:64", after := #[{ on := 6, ground := Go.Ground.data }], guard := none }) (v := ?_) rfl (by kernel_rfl) (fun _ _ _ h => h) (Or.inl ⟨by rfl, fun W hW => ?_⟩) hS ?_
        rotate_left
        · (have hw1 : W.cell? ⟨q, 7, none⟩ = some (.int .u64 (t9.st : Int)) := hW); go_simp; (try go_bits); (try rw [if_pos (by omega)]); (try with_reducible rfl)
        (try simp only [Act.put, List.setIfInBounds_toArray, List.set_cons_succ, List.set_cons_zero])
        refine wpE_only (i := 1) (oi := { dst := some 119, op := Go.Op.call { callee := Go.Callee.value (Go.Operand.func 13), args := #[Go.Operand.tmp 118], argTypes := #[42] }, type := 4, pos := "law.go:64", after := #[{ on := 0, ground := Go.Ground.data }], guard := none }) rfl (by kernel_rfl) (by rfl) (fun K hK => ?_)
        go_simp; refine HBu.out.mono ?_; rintro y wz ⟨rfl, rfl⟩; refine hK _ _ hS ?_; clear hK K
        (try simp only [Act.put, List.setIfInBounds_toArray, List.set_cons_succ, List.set_cons_zero])
        refine wpE_last (oi := { dst := some 126, op := Go.Op.binOp Go.BinOp.neq 4 (Go.Operand.tmp 119) (Go.Operand.tmp 125) 4, type := 4, pos := "law.go:64", after := #[{ on := 1, ground := Go.Ground.data }, { on := 7, ground := Go.Ground.data }], guard := none }) rfl (by kernel_rfl) (by kernel_rfl) (by rfl) (fun K hK => ?_)
        go_simp; (try go_bits); refine hK _ _ ?_; clear hK K
        go_wp2
        exact ⟨⟨j + 1, by go_num, by omega, H9.out⟩, by simp [intOf]; omega⟩
    · obtain rfl : j = L.length := by omega
      clear hlt
      go_wp2
      go_ret
      exact ⟨rfl, HR.out⟩
end Go.Proofs.YtonhlgfgbdiapaaGreat
