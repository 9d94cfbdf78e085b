import Derived.Test.YtpodeclkgcgpgaaF5
/- FrameCounts' walk -/
namespace Go.Proofs.Ytpodeclkgcgpgaa
set_option linter.unusedVariables false
open Go.RowKit
set_option maxRecDepth 100000

set_option maxHeartbeats 2000000 in
theorem counts_calls (n harts : Int) (hn : wfI n) (hr : wfI harts) (A : Option Addr) (cap m : Nat) (xs : List Value) (w : World)
    (hrd : Reads w w.heap.size 3 A m xs) (hm : m ≤ 9223372036854775807) (hx : ∀ i, i < m → ∃ k a v, Op3 xs i k a v ∧ wfI k ∧ wfI a ∧ wfU v) :
    Calls Try.prog 4 #[.int .i64 n, .int .i64 harts, .slice A m cap] w fun e w' => e = .returned (.bool true) ∧ Upd (fun _ => False) w w' := by
  have HX := Lib.hid (And.intro hrd hx)
  clear hrd hx
  go_enter Try.func4, Try.ntmps4
  go_wp2_with fail
  refine (place_calls n 12 _ hn.1 hn.2 (by omega) (by omega)).mono ?_; rintro e wz ⟨rfl, rfl⟩
  have hp0 := Int.emod_nonneg n (show (12 : Int) ≠ 0 from by decide)
  have hp1 := Int.emod_lt_of_pos n (show (0 : Int) < 12 from by decide)
  obtain ⟨k0, hk0⟩ := Int.eq_ofNat_of_zero_le hp0
  rw [hk0] at hp0 hp1 ⊢
  clear hk0
  go_wp2_with fail
  have hMem := law_Memory (1 + k0) (by omega) (by omega) (fun _ => 0) 1 2 (by omega) w
  rw [show ((1 + k0 : Nat) : Int) = 1 + (k0 : Int) from by omega] at hMem
  refine hMem.mono ?_
  rintro e w1 ⟨p1, p2, own1, rfl, hS1, hM1, _⟩
  have hA : Step (fun _ => False) own1 w1 (ext own1 w1 0) (w1.alloc (.cells #[.pointer (some ⟨p1, 0, none⟩), .pointer (some ⟨p2, 0, none⟩)] 27)).drew := ⟨((Upd.refl _ _).alloc _).drew, fun b hb => ext_old _ _ _ hb⟩
  have hB : Blk (w1.alloc (.cells #[.pointer (some ⟨p1, 0, none⟩), .pointer (some ⟨p2, 0, none⟩)] 27)).drew w1.heap.size 27 #[.pointer (some ⟨p1, 0, none⟩), .pointer (some ⟨p2, 0, none⟩)] := (Blk.new _ _ _).drew
  have H1 := Lib.hid (And.intro (hS1.trans hA) (And.intro (hM1.step hA (fun h => h)) (And.intro hB (ext_new own1 w1 0 (Nat.le_refl _)))))
  clear hA hB hS1 hM1 hMem
  have hq0 := Int.emod_nonneg harts (show (8 : Int) ≠ 0 from by decide)
  have hq1 := Int.emod_lt_of_pos harts (show (0 : Int) < 8 from by decide)
  obtain ⟨h0, hh0⟩ := Int.eq_ofNat_of_zero_le hq0
  rw [hh0] at hq0 hq1
  have HH := Lib.hid hh0
  clear hh0
  go_wp2_with fail
  generalize w1.heap.size = tb at *
  have hbl := H1.out.2.2.1.cell 0
  refine wpE_region (S := fun (W' : World) => W'.cell? ⟨tb, 0, none⟩ = some (.pointer (some ⟨p1, 0, none⟩))) (s := 10) (by kernel_rfl) ?_
  have hS : (fun (W' : World) => W'.cell? ⟨tb, 0, none⟩ = some (.pointer (some ⟨p1, 0, none⟩))) _ := hbl
  refine wpE_take (i := 0) (oi := { dst := some 32, op := Go.Op.fieldAddr 27 (Go.Operand.tmp 8) 0, type := 0, pos := "law.go:142", after := #[], guard := none }) (v := ?_) rfl (by kernel_rfl) (fun _ _ _ h => h) (Or.inl ⟨by rfl, fun W hW => ?_⟩) hS ?_
  rotate_left
  · replace hW : W.cell? ⟨tb, 0, none⟩ = some (.pointer (some ⟨p1, 0, none⟩)) := hW; go_simp; (try go_bits); (try rw [if_pos (by omega)]); (try with_reducible rfl)
  (try simp only [Act.put, List.setIfInBounds_toArray, List.set_cons_succ, List.set_cons_zero])
  refine wpE_take (i := 1) (oi := { dst := some 33, op := Go.Op.load 24 (Go.Operand.tmp 32), type := 24, pos := "law.go:142", after := #[{ on := 0, ground := Go.Ground.data }], guard := none }) (v := ?_) rfl (by kernel_rfl) (fun _ _ _ h => h) (Or.inl ⟨by rfl, fun W hW => ?_⟩) hS ?_
  rotate_left
  · replace hW : W.cell? ⟨tb, 0, none⟩ = some (.pointer (some ⟨p1, 0, none⟩)) := hW; go_simp; (try go_bits); (try rw [if_pos (by omega)]); (try with_reducible rfl)
  (try simp only [Act.put, List.setIfInBounds_toArray, List.set_cons_succ, List.set_cons_zero])
  refine wpE_take (i := 2) (oi := { dst := some 34, op := Go.Op.move (Go.Operand.tmp 1), type := 3, pos := "law.go:142", after := #[], guard := none }) (v := ?_) rfl (by kernel_rfl) (fun _ _ _ h => h) (Or.inl ⟨by rfl, fun W hW => ?_⟩) hS ?_
  rotate_left
  · replace hW : W.cell? ⟨tb, 0, none⟩ = some (.pointer (some ⟨p1, 0, none⟩)) := hW; go_simp; (try go_bits); (try rw [if_pos (by omega)]); (try with_reducible rfl)
  (try simp only [Act.put, List.setIfInBounds_toArray, List.set_cons_succ, List.set_cons_zero])
  refine wpE_only (i := 3) (oi := { dst := some 35, op := Go.Op.call { callee := Go.Callee.value (Go.Operand.func 17), args := #[Go.Operand.tmp 34, Go.Operand.const (Go.Value.int Go.IntKind.i64 8)], argTypes := #[3, 3] }, type := 3, pos := "law.go:142", after := #[{ on := 2, ground := Go.Ground.data }], guard := none }) rfl (by kernel_rfl) (by rfl) (fun K hK => ?_)
  go_simp; refine (place_calls harts 8 _ hr.1 hr.2 (by omega) (by omega)).mono ?_; rintro e wz ⟨rfl, rfl⟩; rw [HH.out]; refine hK _ _ hS ?_; clear hK K
  (try simp only [Act.put, List.setIfInBounds_toArray, List.set_cons_succ, List.set_cons_zero])
  refine wpE_take (i := 4) (oi := { dst := some 36, op := Go.Op.binOp Go.BinOp.add 3 (Go.Operand.const (Go.Value.int Go.IntKind.i64 1)) (Go.Operand.tmp 35) 3, type := 3, pos := "law.go:142", after := #[{ on := 3, ground := Go.Ground.data }], guard := none }) (v := .int .i64 (1 + (h0 : Int))) rfl (by kernel_rfl) (fun _ _ _ h => h) (Or.inl ⟨by rfl, fun W hW => ?_⟩) hS ?_
  · replace hW : W.cell? ⟨tb, 0, none⟩ = some (.pointer (some ⟨p1, 0, none⟩)) := hW; go_simp; (try go_bits); (try trivial)
  (try simp only [Act.put, List.setIfInBounds_toArray, List.set_cons_succ, List.set_cons_zero])
  refine wpE_only (i := 5) (oi := { dst := some 37, op := Go.Op.call { callee := Go.Callee.value (Go.Operand.func 19), args := #[Go.Operand.tmp 33, Go.Operand.const (Go.Value.int Go.IntKind.i64 0), Go.Operand.tmp 36], argTypes := #[24, 3, 3] }, type := 33, pos := "law.go:142", after := #[{ on := 1, ground := Go.Ground.data }, { on := 4, ground := Go.Ground.data }, { on := 3, ground := Go.Ground.chain }], guard := none }) rfl (by kernel_rfl) (by rfl) (fun K hK => ?_)
  go_simp
  have hN := pool_New H1.out.2.1 0 (1 + h0) (by omega) (by omega) (by omega) 3
  rw [show ((1 + h0 : Nat) : Int) = 1 + (h0 : Int) from by omega] at hN
  refine hN.mono ?_; rintro e w2 ⟨pp, own2, rfl, hS2, hP2⟩
  have hM2 := H1.out.2.1.step hS2 (fun h => h)
  have hB2 := hS2.blk H1.out.2.2.1 H1.out.2.2.2 (fun h => h)
  have H2 := Lib.hid (show St w pp p1 (1 + k0) 0 (1 + h0) own2 w2 ⟨initO (1 + k0) 0, List.replicate (1 + k0) 0, fun _ => 0, 0⟩ from ⟨(H1.out.1.trans hS2).mono (fun _ h => h.elim), hP2, hM2⟩)
  have hS := hB2.1.cell 0
  clear hS2 hP2 hM2 H1 hN hB2
  refine hK _ _ hS ?_; clear hK K
  (try simp only [Act.put, List.setIfInBounds_toArray, List.set_cons_succ, List.set_cons_zero])
  refine wpE_take (i := 6) (oi := { dst := some 31, op := Go.Op.move (Go.Operand.tmp 37), type := 33, pos := "law.go:142", after := #[{ on := 5, ground := Go.Ground.data }], guard := none }) (v := ?_) rfl (by kernel_rfl) (fun _ _ _ h => h) (Or.inl ⟨by rfl, fun W hW => ?_⟩) hS ?_
  rotate_left
  · replace hW : W.cell? ⟨tb, 0, none⟩ = some (.pointer (some ⟨p1, 0, none⟩)) := hW; go_simp; (try go_bits); (try rw [if_pos (by omega)]); (try with_reducible rfl)
  (try simp only [Act.put, List.setIfInBounds_toArray, List.set_cons_succ, List.set_cons_zero])
  refine wpE_take (i := 7) (oi := { dst := some 38, op := Go.Op.extract (Go.Operand.tmp 31) 0, type := 31, pos := "law.go:142", after := #[{ on := 6, ground := Go.Ground.data }], guard := none }) (v := ?_) rfl (by kernel_rfl) (fun _ _ _ h => h) (Or.inl ⟨by rfl, fun W hW => ?_⟩) hS ?_
  rotate_left
  · replace hW : W.cell? ⟨tb, 0, none⟩ = some (.pointer (some ⟨p1, 0, none⟩)) := hW; go_simp; (try go_bits); (try rw [if_pos (by omega)]); (try with_reducible rfl)
  (try simp only [Act.put, List.setIfInBounds_toArray, List.set_cons_succ, List.set_cons_zero])
  refine wpE_take (i := 8) (oi := { dst := some 39, op := Go.Op.extract (Go.Operand.tmp 31) 1, type := 32, pos := "law.go:142", after := #[{ on := 6, ground := Go.Ground.data }, { on := 9, ground := Go.Ground.gcOnly Go.Departure.lateStores }], guard := none }) (v := ?_) rfl (by kernel_rfl) (fun _ _ _ h => h) (Or.inl ⟨by rfl, fun W hW => ?_⟩) hS ?_
  rotate_left
  · replace hW : W.cell? ⟨tb, 0, none⟩ = some (.pointer (some ⟨p1, 0, none⟩)) := hW; go_simp; (try go_bits); (try rw [if_pos (by omega)]); (try with_reducible rfl)
  (try simp only [Act.put, List.setIfInBounds_toArray, List.set_cons_succ, List.set_cons_zero])
  refine wpE_only (i := 9) (oi := { dst := some 10, op := Go.Op.assign (Go.Operand.tmp 38), type := 31, pos := "law.go:142", after := #[{ on := 7, ground := Go.Ground.data }, { on := 5, ground := Go.Ground.chain }, { on := 0, ground := Go.Ground.phase }, { on := 1, ground := Go.Ground.phase }, { on := 2, ground := Go.Ground.phase }, { on := 3, ground := Go.Ground.phase }, { on := 4, ground := Go.Ground.phase }, { on := 5, ground := Go.Ground.phase }, { on := 6, ground := Go.Ground.phase }, { on := 7, ground := Go.Ground.phase }, { on := 8, ground := Go.Ground.textOnly Go.Departure.lateStores }], guard := none }) rfl (by kernel_rfl) (by rfl) (fun K hK => ?_)
  go_simp; (try go_bits); refine hK _ _ hS ?_; clear hK K
  (try simp only [Act.put, List.setIfInBounds_toArray, List.set_cons_succ, List.set_cons_zero])
  refine wpE_last (oi := { dst := some 11, op := Go.Op.assign (Go.Operand.tmp 39), type := 32, pos := "law.go:142", after := #[{ on := 8, ground := Go.Ground.data }, { on := 9, ground := Go.Ground.chain }, { on := 0, ground := Go.Ground.phase }, { on := 1, ground := Go.Ground.phase }, { on := 2, ground := Go.Ground.phase }, { on := 3, ground := Go.Ground.phase }, { on := 4, ground := Go.Ground.phase }, { on := 5, ground := Go.Ground.phase }, { on := 6, ground := Go.Ground.phase }, { on := 7, ground := Go.Ground.phase }, { on := 8, ground := Go.Ground.phase }, { on := 9, ground := Go.Ground.phase }], guard := none }) rfl (by kernel_rfl) (by kernel_rfl) (by rfl) (fun K hK => ?_)
  go_simp; (try go_bits); refine hK _ _ ?_; clear hK K
  clear hbl hS
  go_wp2
  go_loopw [12] (fun i wr => ∃ (k : Nat), k ≤ m ∧ i = .int .i64 (k : Int) ∧ Hid (∃ own' s, St w pp p1 (1 + k0) 0 (1 + h0) own' wr s ∧ Rng s.ow ∧ s.ow.length = 1 + k0)) (fun i _ => m - (intOf i).toNat)
  case atStart => exact ⟨0, by omega, rfl, own2, _, H2.out, Rng.init _ _, initO_len (by omega)⟩
  case round =>
    obtain ⟨k, hk, rfl, HR⟩ := hrel
    by_cases hlt : k < m
    · obtain ⟨b, o, rfl, hbw, hcs⟩ := HX.out.1.start (by omega) (by omega)
      obtain ⟨kd, a, v, ⟨x0, x1, x2⟩, ⟨hkd0, hkd1⟩, ⟨ha0, ha1⟩, hv0, hv1⟩ := HX.out.2 k hlt
      obtain ⟨own3, s, hSt, hRs, hln⟩ := HR.out
      have c0 := (hSt.upd.cell hbw (fun h => h)).trans (hcs _ _ x0)
      have c1 := (hSt.upd.cell hbw (fun h => h)).trans (hcs _ _ x1)
      have c2 := (hSt.upd.cell hbw (fun h => h)).trans (hcs _ _ x2)
      simp only [← Nat.add_assoc] at c1 c2
      have H3 := Lib.hid (And.intro hSt (And.intro hRs hln))
      clear x0 x1 x2 hcs hSt hRs hln HR
      go_wp2
      have hxb := Blk.new wr 36 #[.int .i64 kd, .int .i64 a, .int .u64 v]
      have hxc : ext own3 wr 0 wr.heap.size = 0 := ext_new _ _ _ (Nat.le_refl _)
      have hSW := H3.out.1.newc ((Upd.refl (fun _ => False) wr).alloc (.cells #[.int .i64 kd, .int .i64 a, .int .u64 v] 36))
      have d0 := hxb.cell 0
      have d1 := hxb.cell 1
      have H4 := Lib.hid (And.intro hSW (And.intro H3.out.2 (And.intro hxb hxc)))
      clear hxb hSW H3 c0 c1 c2 hxc
      generalize (wr.alloc (.cells #[.int .i64 kd, .int .i64 a, .int .u64 v] 36)) = W at *
      generalize ext own3 wr 0 = own4 at *
      generalize wr.heap.size = xb at *
      simp only [List.getElem?_toArray, List.getElem?_cons_succ, List.getElem?_cons_zero] at d0 d1
      go_loop [14, 15] (fun ws i => ∃ (j : Nat) (z : Int), j ≤ 1 + k0 ∧ i = .int .i64 ((j : Int) - 1) ∧ ws = .int .i64 z ∧ Hid (WasP s.ow j z)) (fun _ i => (intOf i + 1).toNat)
      case atStart => exact ⟨1 + k0, -1, by omega, by go_num, rfl, by rw [← H4.out.2.1.2]; exact WasP.init _⟩
      case round =>
        obtain ⟨j, z, hj, rfl, rfl, HW⟩ := hrel
        rcases j with _ | j
        · rw [show (((0 : Nat) : Int) - 1) = -1 from rfl]
          go_wp2_with fail
          refine (place_calls kd 5 _ hkd0 hkd1 (by omega) (by omega)).mono ?_; rintro e wz ⟨rfl, rfl⟩
          have hpv0 := Int.emod_nonneg kd (show (5 : Int) ≠ 0 from by decide)
          have hpv1 := Int.emod_lt_of_pos kd (show (0 : Int) < 5 from by decide)
          generalize kd % 5 = pv at *
          go_upto_block 4 with fail
          go_cut [] (fun wx => Hid (∃ own' s', St w pp p1 (1 + k0) 0 (1 + h0) own' wx s' ∧ Rng s'.ow ∧ s'.ow.length = 1 + k0))
          case first =>
            have hpv : pv = 0 ∨ pv = 1 ∨ pv = 2 ∨ pv = 3 ∨ pv = 4 := by omega
            rcases hpv with rfl | rfl | rfl | rfl | rfl
            · have hT := st_Take H4.out.1 a
              have hK' := H4.out.2.1.1.take a
              have hL := (takeP_len s.ow a).trans H4.out.2.1.2
              have hcase : (okO a = false ∧ takeP s.ow a = (0, 1, s.ow)) ∨ (okO a = true ∧ z = -1 ∧ takeP s.ow a = (0, 10, s.ow)) ∨ ∃ q : Nat, okO a = true ∧ z = q ∧ q < s.ow.length ∧ takeP s.ow a = ((q : Int), 0, s.ow.set q a) := by
                rcases hok : okO a with _ | _
                · exact Or.inl ⟨rfl, by simp [takeP, hok]⟩
                · rcases HW.out.free with ⟨hf, hz⟩ | ⟨q, hf, hz, hq⟩
                  · exact Or.inr (Or.inl ⟨rfl, hz, by simp [takeP, hok, hf]⟩)
                  · exact Or.inr (Or.inr ⟨q, rfl, hz, hq, by simp [takeP, hok, hf]⟩)
              rcases hcase with ⟨ho, htk⟩ | ⟨ho, rfl, htk⟩ | ⟨q, ho, rfl, hq, htk⟩
              all_goals
                rw [htk] at hT hK' hL
                simp only [] at hT hK' hL
                have HT := Lib.hid hT
                have HK := Lib.hid (And.intro hK' hL)
                clear hT hK' hL htk HW
              · have ha : ¬ (a = -1 ∨ (1 ≤ a ∧ a ≤ 8)) := fun h => by rw [okO_iff.2 h] at ho; cases ho
                clear ho
                have hne : (a == -1) = false := by simp; omega
                have hsp : a < 1 ∨ (1 ≤ a ∧ decide (a ≤ 8) = false) := by simp only [decide_eq_false_iff_not]; omega
                clear ha
                go_wp2_with fail
                refine HT.out.mono ?_; rintro e wy ⟨rfl, own5, hS, hSt5⟩
                have hl := hS.loc H4.out.2.2
                have d1' := hl.1.cell 1
                simp only [List.getElem?_toArray, List.getElem?_cons_succ, List.getElem?_cons_zero] at d1'
                have H5 := Lib.hid (show ∃ own' s', St w pp p1 (1 + k0) 0 (1 + h0) own' wy.drew s' ∧ Rng s'.ow ∧ s'.ow.length = 1 + k0 from ⟨own5, _, hSt5.new (Upd.refl _ _).drew, HK.out⟩)
                clear hS hSt5 hl HT HK d0 d1 H4
                rcases hsp with h1 | ⟨h1, h2⟩
                all_goals
                  go_wp2_with fail
                  refine wpE_region (S := fun (W' : World) => W' = wy.drew) (s := 24) (by kernel_rfl) ?_
                  have hS : (fun (W' : World) => W' = wy.drew) _ := rfl
                  refine wpE_take (i := 0) (oi := { dst := some 92, op := Go.Op.move (Go.Operand.tmp 17), type := 32, pos := "law.go:158", after := #[], guard := none }) (v := ?_) rfl (by kernel_rfl) (fun _ _ _ h => h) (Or.inl ⟨by rfl, fun W hW => ?_⟩) hS ?_
                  rotate_left
                  · (obtain rfl : W = wy.drew := hW); go_simp; (try go_bits); (try rw [if_pos (by omega)]); (try with_reducible rfl)
                  (try simp only [Act.put, List.setIfInBounds_toArray, List.set_cons_succ, List.set_cons_zero])
                  refine wpE_take (i := 1) (oi := { dst := some 93, op := Go.Op.binOp Go.BinOp.eql 32 (Go.Operand.tmp 92) (Go.Operand.const (Go.Value.int Go.IntKind.i64 0)) 32, type := 4, pos := "law.go:158", after := #[{ on := 0, ground := Go.Ground.data }], guard := none }) (v := .bool false) rfl (by kernel_rfl) (fun _ _ _ h => h) (Or.inl ⟨by rfl, fun W hW => ?_⟩) hS ?_
                  · (obtain rfl : W = wy.drew := hW); go_simp; (try go_bits); (try rw [if_pos (by omega)]); (try with_reducible rfl)
                  (try simp only [Act.put, List.setIfInBounds_toArray, List.set_cons_succ, List.set_cons_zero])
                  refine wpE_take (i := 2) (oi := { dst := some 94, op := Go.Op.move (Go.Operand.tmp 18), type := 4, pos := "law.go:158", after := #[], guard := none }) (v := ?_) rfl (by kernel_rfl) (fun _ _ _ h => h) (Or.inl ⟨by rfl, fun W hW => ?_⟩) hS ?_
                  rotate_left
                  · (obtain rfl : W = wy.drew := hW); go_simp; (try go_bits); (try rw [if_pos (by omega)]); (try with_reducible rfl)
                  (try simp only [Act.put, List.setIfInBounds_toArray, List.set_cons_succ, List.set_cons_zero])
                  refine wpE_take (i := 3) (oi := { dst := some 95, op := Go.Op.move (Go.Operand.tmp 94), type := 4, pos := "law.go:158", after := #[{ on := 2, ground := Go.Ground.data }], guard := none }) (v := ?_) rfl (by kernel_rfl) (fun _ _ _ h => h) (Or.inl ⟨by rfl, fun W hW => ?_⟩) hS ?_
                  rotate_left
                  · (obtain rfl : W = wy.drew := hW); go_simp; (try go_bits); (try rw [if_pos (by omega)]); (try with_reducible rfl)
                  (try simp only [Act.put, List.setIfInBounds_toArray, List.set_cons_succ, List.set_cons_zero])
                  refine wpE_take (i := 4) (oi := { dst := some 96, op := Go.Op.move (Go.Operand.tmp 14), type := 3, pos := "law.go:158", after := #[{ on := 3, ground := Go.Ground.guard }], guard := some (3, true) }) (v := undef) rfl (by kernel_rfl) (fun _ _ _ h => h) (Or.inr ⟨by rfl, rfl⟩) hS ?_
                  (try simp only [Act.put, List.setIfInBounds_toArray, List.set_cons_succ, List.set_cons_zero])
                  refine wpE_take (i := 5) (oi := { dst := some 97, op := Go.Op.binOp Go.BinOp.geq 3 (Go.Operand.tmp 96) (Go.Operand.const (Go.Value.int Go.IntKind.i64 0)) 3, type := 4, pos := "law.go:158", after := #[{ on := 4, ground := Go.Ground.data }, { on := 3, ground := Go.Ground.guard }], guard := some (3, true) }) (v := undef) rfl (by kernel_rfl) (fun _ _ _ h => h) (Or.inr ⟨by rfl, rfl⟩) hS ?_
                  (try simp only [Act.put, List.setIfInBounds_toArray, List.set_cons_succ, List.set_cons_zero])
                  refine wpE_take (i := 6) (oi := { dst := some 98, op := Go.Op.pick (Go.Operand.tmp 95) (Go.Operand.tmp 97) (Go.Operand.const (Go.Value.bool false)), type := 4, pos := "law.go:158", after := #[{ on := 3, ground := Go.Ground.data }, { on := 5, ground := Go.Ground.data }], guard := none }) (v := .bool false) rfl (by kernel_rfl) (fun _ _ _ h => h) (Or.inl ⟨by rfl, fun W hW => ?_⟩) hS ?_
                  · (obtain rfl : W = wy.drew := hW); go_simp; (try go_bits); (try rw [if_pos (by omega)]); (try with_reducible rfl)
                  (try simp only [Act.put, List.setIfInBounds_toArray, List.set_cons_succ, List.set_cons_zero])
                  refine wpE_take (i := 7) (oi := { dst := some 99, op := Go.Op.binOp Go.BinOp.neq 4 (Go.Operand.tmp 93) (Go.Operand.tmp 98) 4, type := 4, pos := "law.go:158", after := #[{ on := 1, ground := Go.Ground.data }, { on := 6, ground := Go.Ground.data }], guard := none }) (v := .bool false) rfl (by kernel_rfl) (fun _ _ _ h => h) (Or.inl ⟨by rfl, fun W hW => ?_⟩) hS ?_
                  · (obtain rfl : W = wy.drew := hW); go_simp; (try go_bits); (try rw [if_pos (by omega)]); (try with_reducible rfl)
                  (try simp only [Act.put, List.setIfInBounds_toArray, List.set_cons_succ, List.set_cons_zero])
                  refine wpE_take (i := 8) (oi := { dst := some 100, op := Go.Op.move (Go.Operand.tmp 99), type := 4, pos := "law.go:158", after := #[{ on := 7, ground := Go.Ground.data }, { on := 3, ground := Go.Ground.chain }], guard := none }) (v := ?_) rfl (by kernel_rfl) (fun _ _ _ h => h) (Or.inl ⟨by rfl, fun W hW => ?_⟩) hS ?_
                  rotate_left
                  · (obtain rfl : W = wy.drew := hW); go_simp; (try go_bits); (try rw [if_pos (by omega)]); (try with_reducible rfl)
                  (try simp only [Act.put, List.setIfInBounds_toArray, List.set_cons_succ, List.set_cons_zero])
                  refine wpE_take (i := 9) (oi := { dst := some 101, op := Go.Op.move (Go.Operand.tmp 17), type := 32, pos := "law.go:158", after := #[{ on := 8, ground := Go.Ground.guard }], guard := some (8, false) }) (v := ?_) rfl (by kernel_rfl) (fun _ _ _ h => h) (Or.inl ⟨by rfl, fun W hW => ?_⟩) hS ?_
                  rotate_left
                  · (obtain rfl : W = wy.drew := hW); go_simp; (try go_bits); (try rw [if_pos (by omega)]); (try with_reducible rfl)
                  (try simp only [Act.put, List.setIfInBounds_toArray, List.set_cons_succ, List.set_cons_zero])
                  refine wpE_take (i := 10) (oi := { dst := some 102, op := Go.Op.binOp Go.BinOp.eql 32 (Go.Operand.tmp 101) (Go.Operand.const (Go.Value.int Go.IntKind.i64 0)) 32, type := 4, pos := "law.go:158", after := #[{ on := 9, ground := Go.Ground.data }, { on := 8, ground := Go.Ground.guard }], guard := some (8, false) }) (v := .bool false) rfl (by kernel_rfl) (fun _ _ _ h => h) (Or.inl ⟨by rfl, fun W hW => ?_⟩) hS ?_
                  · (obtain rfl : W = wy.drew := hW); go_simp; (try go_bits); (try rw [if_pos (by omega)]); (try with_reducible rfl)
                  (try simp only [Act.put, List.setIfInBounds_toArray, List.set_cons_succ, List.set_cons_zero])
                  refine wpE_take (i := 11) (oi := { dst := some 103, op := Go.Op.move (Go.Operand.tmp 102), type := 4, pos := "law.go:158", after := #[{ on := 10, ground := Go.Ground.data }, { on := 8, ground := Go.Ground.chain }, { on := 8, ground := Go.Ground.guard }], guard := some (8, false) }) (v := ?_) rfl (by kernel_rfl) (fun _ _ _ h => h) (Or.inl ⟨by rfl, fun W hW => ?_⟩) hS ?_
                  rotate_left
                  · (obtain rfl : W = wy.drew := hW); go_simp; (try go_bits); (try rw [if_pos (by omega)]); (try with_reducible rfl)
                  (try simp only [Act.put, List.setIfInBounds_toArray, List.set_cons_succ, List.set_cons_zero])
                  refine wpE_take (i := 12) (oi := { dst := some 104, op := Go.Op.move (Go.Operand.tmp 16), type := 3, pos := "law.go:158", after := #[{ on := 11, ground := Go.Ground.guard }], guard := some (11, true) }) (v := undef) rfl (by kernel_rfl) (fun _ _ _ h => h) (Or.inr ⟨by rfl, rfl⟩) hS ?_
                  (try simp only [Act.put, List.setIfInBounds_toArray, List.set_cons_succ, List.set_cons_zero])
                  refine wpE_take (i := 13) (oi := { dst := some 105, op := Go.Op.move (Go.Operand.tmp 14), type := 3, pos := "law.go:158", after := #[{ on := 11, ground := Go.Ground.guard }], guard := some (11, true) }) (v := undef) rfl (by kernel_rfl) (fun _ _ _ h => h) (Or.inr ⟨by rfl, rfl⟩) hS ?_
                  (try simp only [Act.put, List.setIfInBounds_toArray, List.set_cons_succ, List.set_cons_zero])
                  refine wpE_take (i := 14) (oi := { dst := some 106, op := Go.Op.binOp Go.BinOp.neq 3 (Go.Operand.tmp 104) (Go.Operand.tmp 105) 3, type := 4, pos := "law.go:158", after := #[{ on := 12, ground := Go.Ground.data }, { on := 13, ground := Go.Ground.data }, { on := 11, ground := Go.Ground.guard }], guard := some (11, true) }) (v := undef) rfl (by kernel_rfl) (fun _ _ _ h => h) (Or.inr ⟨by rfl, rfl⟩) hS ?_
                  (try simp only [Act.put, List.setIfInBounds_toArray, List.set_cons_succ, List.set_cons_zero])
                  refine wpE_take (i := 15) (oi := { dst := some 107, op := Go.Op.move (Go.Operand.tmp 106), type := 4, pos := "law.go:158", after := #[{ on := 14, ground := Go.Ground.data }, { on := 11, ground := Go.Ground.chain }, { on := 11, ground := Go.Ground.guard }], guard := some (11, true) }) (v := undef) rfl (by kernel_rfl) (fun _ _ _ h => h) (Or.inr ⟨by rfl, rfl⟩) hS ?_
                  (try simp only [Act.put, List.setIfInBounds_toArray, List.set_cons_succ, List.set_cons_zero])
                  refine wpE_take (i := 16) (oi := { dst := some 108, op := Go.Op.move (Go.Operand.tmp 10), type := 31, pos := "law.go:158", after := #[{ on := 15, ground := Go.Ground.guard }], guard := some (15, false) }) (v := undef) rfl (by kernel_rfl) (fun _ _ _ h => h) (Or.inr ⟨by rfl, rfl⟩) hS ?_
                  (try simp only [Act.put, List.setIfInBounds_toArray, List.set_cons_succ, List.set_cons_zero])
                  refine wpE_take (i := 17) (oi := { dst := some 109, op := Go.Op.move (Go.Operand.tmp 16), type := 3, pos := "law.go:158", after := #[{ on := 15, ground := Go.Ground.guard }], guard := some (15, false) }) (v := undef) rfl (by kernel_rfl) (fun _ _ _ h => h) (Or.inr ⟨by rfl, rfl⟩) hS ?_
                  (try simp only [Act.put, List.setIfInBounds_toArray, List.set_cons_succ, List.set_cons_zero])
                  refine wpE_take (i := 18) (oi := { dst := some 110, op := Go.Op.call { callee := Go.Callee.value (Go.Operand.func 24), args := #[Go.Operand.tmp 108, Go.Operand.tmp 109], argTypes := #[31, 3] }, type := 3, pos := "law.go:158", after := #[{ on := 16, ground := Go.Ground.data }, { on := 17, ground := Go.Ground.data }, { on := 15, ground := Go.Ground.chain }, { on := 15, ground := Go.Ground.guard }], guard := some (15, false) }) (v := undef) rfl (by kernel_rfl) (fun _ _ _ h => h) (Or.inr ⟨by rfl, rfl⟩) hS ?_
                  (try simp only [Act.put, List.setIfInBounds_toArray, List.set_cons_succ, List.set_cons_zero])
                  refine wpE_take (i := 19) (oi := { dst := some 111, op := Go.Op.fieldAddr 36 (Go.Operand.tmp 13) 1, type := 0, pos := "law.go:158", after := #[{ on := 15, ground := Go.Ground.guard }], guard := some (15, false) }) (v := undef) rfl (by kernel_rfl) (fun _ _ _ h => h) (Or.inr ⟨by rfl, rfl⟩) hS ?_
                  (try simp only [Act.put, List.setIfInBounds_toArray, List.set_cons_succ, List.set_cons_zero])
                  refine wpE_take (i := 20) (oi := { dst := some 112, op := Go.Op.load 3 (Go.Operand.tmp 111), type := 3, pos := "law.go:158", after := #[{ on := 19, ground := Go.Ground.data }, { on := 15, ground := Go.Ground.guard }], guard := some (15, false) }) (v := undef) rfl (by kernel_rfl) (fun _ _ _ h => h) (Or.inr ⟨by rfl, rfl⟩) hS ?_
                  (try simp only [Act.put, List.setIfInBounds_toArray, List.set_cons_succ, List.set_cons_zero])
                  refine wpE_take (i := 21) (oi := { dst := some 113, op := Go.Op.binOp Go.BinOp.neq 3 (Go.Operand.tmp 110) (Go.Operand.tmp 112) 3, type := 4, pos := "law.go:158", after := #[{ on := 18, ground := Go.Ground.data }, { on := 20, ground := Go.Ground.data }, { on := 15, ground := Go.Ground.guard }], guard := some (15, false) }) (v := undef) rfl (by kernel_rfl) (fun _ _ _ h => h) (Or.inr ⟨by rfl, rfl⟩) hS ?_
                  (try simp only [Act.put, List.setIfInBounds_toArray, List.set_cons_succ, List.set_cons_zero])
                  refine wpE_take (i := 22) (oi := { dst := some 114, op := Go.Op.pick (Go.Operand.tmp 107) (Go.Operand.const (Go.Value.bool true)) (Go.Operand.tmp 113), type := 4, pos := "law.go:158", after := #[{ on := 15, ground := Go.Ground.data }, { on := 21, ground := Go.Ground.data }, { on := 11, ground := Go.Ground.guard }], guard := some (11, true) }) (v := undef) rfl (by kernel_rfl) (fun _ _ _ h => h) (Or.inr ⟨by rfl, rfl⟩) hS ?_
                  (try simp only [Act.put, List.setIfInBounds_toArray, List.set_cons_succ, List.set_cons_zero])
                  refine wpE_take (i := 23) (oi := { dst := some 115, op := Go.Op.pick (Go.Operand.tmp 103) (Go.Operand.tmp 114) (Go.Operand.const (Go.Value.bool false)), type := 4, pos := "law.go:158", after := #[{ on := 11, ground := Go.Ground.data }, { on := 22, ground := Go.Ground.data }, { on := 8, ground := Go.Ground.guard }], guard := some (8, false) }) (v := .bool false) rfl (by kernel_rfl) (fun _ _ _ h => h) (Or.inl ⟨by rfl, fun W hW => ?_⟩) hS ?_
                  · (obtain rfl : W = wy.drew := hW); go_simp; (try go_bits); (try rw [if_pos (by omega)]); (try with_reducible rfl)
                  (try simp only [Act.put, List.setIfInBounds_toArray, List.set_cons_succ, List.set_cons_zero])
                  refine wpE_last (oi := { dst := some 116, op := Go.Op.pick (Go.Operand.tmp 100) (Go.Operand.const (Go.Value.bool true)) (Go.Operand.tmp 115), type := 4, pos := "law.go:158", after := #[{ on := 8, ground := Go.Ground.data }, { on := 23, ground := Go.Ground.data }], guard := none }) rfl (by kernel_rfl) (by kernel_rfl) (by rfl) (fun K hK => ?_)
                  go_simp; (try go_bits); refine hK _ _ ?_; clear hK K
                  clear hS
                  go_wp2
                  go_meet
                  exact H5.out
              · have ha := okO_iff.1 ho
                clear ho
                have hsp : a = -1 ∨ ((a == -1) = false ∧ 1 ≤ a ∧ decide (a ≤ 8) = true) := by
                  rcases ha with h | h
                  · exact Or.inl h
                  · exact Or.inr ⟨by simp; omega, h.1, by simp; omega⟩
                clear ha
                go_wp2_with fail
                refine HT.out.mono ?_; rintro e wy ⟨rfl, own5, hS, hSt5⟩
                have hl := hS.loc H4.out.2.2
                have d1' := hl.1.cell 1
                simp only [List.getElem?_toArray, List.getElem?_cons_succ, List.getElem?_cons_zero] at d1'
                have H5 := Lib.hid (show ∃ own' s', St w pp p1 (1 + k0) 0 (1 + h0) own' wy.drew s' ∧ Rng s'.ow ∧ s'.ow.length = 1 + k0 from ⟨own5, _, hSt5.new (Upd.refl _ _).drew, HK.out⟩)
                clear hS hSt5 hl HT HK d0 d1 H4
                rcases hsp with rfl | ⟨hne, h1, h2⟩
                all_goals
                  go_wp2_with fail
                  refine wpE_region (S := fun (W' : World) => W' = wy.drew) (s := 24) (by kernel_rfl) ?_
                  have hS : (fun (W' : World) => W' = wy.drew) _ := rfl
                  refine wpE_take (i := 0) (oi := { dst := some 92, op := Go.Op.move (Go.Operand.tmp 17), type := 32, pos := "law.go:158", after := #[], guard := none }) (v := ?_) rfl (by kernel_rfl) (fun _ _ _ h => h) (Or.inl ⟨by rfl, fun W hW => ?_⟩) hS ?_
                  rotate_left
                  · (obtain rfl : W = wy.drew := hW); go_simp; (try go_bits); (try rw [if_pos (by omega)]); (try with_reducible rfl)
                  (try simp only [Act.put, List.setIfInBounds_toArray, List.set_cons_succ, List.set_cons_zero])
                  refine wpE_take (i := 1) (oi := { dst := some 93, op := Go.Op.binOp Go.BinOp.eql 32 (Go.Operand.tmp 92) (Go.Operand.const (Go.Value.int Go.IntKind.i64 0)) 32, type := 4, pos := "law.go:158", after := #[{ on := 0, ground := Go.Ground.data }], guard := none }) (v := .bool false) rfl (by kernel_rfl) (fun _ _ _ h => h) (Or.inl ⟨by rfl, fun W hW => ?_⟩) hS ?_
                  · (obtain rfl : W = wy.drew := hW); go_simp; (try go_bits); (try rw [if_pos (by omega)]); (try with_reducible rfl)
                  (try simp only [Act.put, List.setIfInBounds_toArray, List.set_cons_succ, List.set_cons_zero])
                  refine wpE_take (i := 2) (oi := { dst := some 94, op := Go.Op.move (Go.Operand.tmp 18), type := 4, pos := "law.go:158", after := #[], guard := none }) (v := ?_) rfl (by kernel_rfl) (fun _ _ _ h => h) (Or.inl ⟨by rfl, fun W hW => ?_⟩) hS ?_
                  rotate_left
                  · (obtain rfl : W = wy.drew := hW); go_simp; (try go_bits); (try rw [if_pos (by omega)]); (try with_reducible rfl)
                  (try simp only [Act.put, List.setIfInBounds_toArray, List.set_cons_succ, List.set_cons_zero])
                  refine wpE_take (i := 3) (oi := { dst := some 95, op := Go.Op.move (Go.Operand.tmp 94), type := 4, pos := "law.go:158", after := #[{ on := 2, ground := Go.Ground.data }], guard := none }) (v := ?_) rfl (by kernel_rfl) (fun _ _ _ h => h) (Or.inl ⟨by rfl, fun W hW => ?_⟩) hS ?_
                  rotate_left
                  · (obtain rfl : W = wy.drew := hW); go_simp; (try go_bits); (try rw [if_pos (by omega)]); (try with_reducible rfl)
                  (try simp only [Act.put, List.setIfInBounds_toArray, List.set_cons_succ, List.set_cons_zero])
                  refine wpE_take (i := 4) (oi := { dst := some 96, op := Go.Op.move (Go.Operand.tmp 14), type := 3, pos := "law.go:158", after := #[{ on := 3, ground := Go.Ground.guard }], guard := some (3, true) }) (v := ?_) rfl (by kernel_rfl) (fun _ _ _ h => h) (Or.inl ⟨by rfl, fun W hW => ?_⟩) hS ?_
                  rotate_left
                  · (obtain rfl : W = wy.drew := hW); go_simp; (try go_bits); (try rw [if_pos (by omega)]); (try with_reducible rfl)
                  (try simp only [Act.put, List.setIfInBounds_toArray, List.set_cons_succ, List.set_cons_zero])
                  refine wpE_take (i := 5) (oi := { dst := some 97, op := Go.Op.binOp Go.BinOp.geq 3 (Go.Operand.tmp 96) (Go.Operand.const (Go.Value.int Go.IntKind.i64 0)) 3, type := 4, pos := "law.go:158", after := #[{ on := 4, ground := Go.Ground.data }, { on := 3, ground := Go.Ground.guard }], guard := some (3, true) }) (v := .bool false) rfl (by kernel_rfl) (fun _ _ _ h => h) (Or.inl ⟨by rfl, fun W hW => ?_⟩) hS ?_
                  · (obtain rfl : W = wy.drew := hW); go_simp; (try go_bits); (try rw [if_pos (by omega)]); (try with_reducible rfl)
                  (try simp only [Act.put, List.setIfInBounds_toArray, List.set_cons_succ, List.set_cons_zero])
                  refine wpE_take (i := 6) (oi := { dst := some 98, op := Go.Op.pick (Go.Operand.tmp 95) (Go.Operand.tmp 97) (Go.Operand.const (Go.Value.bool false)), type := 4, pos := "law.go:158", after := #[{ on := 3, ground := Go.Ground.data }, { on := 5, ground := Go.Ground.data }], guard := none }) (v := .bool false) rfl (by kernel_rfl) (fun _ _ _ h => h) (Or.inl ⟨by rfl, fun W hW => ?_⟩) hS ?_
                  · (obtain rfl : W = wy.drew := hW); go_simp; (try go_bits); (try rw [if_pos (by omega)]); (try with_reducible rfl)
                  (try simp only [Act.put, List.setIfInBounds_toArray, List.set_cons_succ, List.set_cons_zero])
                  refine wpE_take (i := 7) (oi := { dst := some 99, op := Go.Op.binOp Go.BinOp.neq 4 (Go.Operand.tmp 93) (Go.Operand.tmp 98) 4, type := 4, pos := "law.go:158", after := #[{ on := 1, ground := Go.Ground.data }, { on := 6, ground := Go.Ground.data }], guard := none }) (v := .bool false) rfl (by kernel_rfl) (fun _ _ _ h => h) (Or.inl ⟨by rfl, fun W hW => ?_⟩) hS ?_
                  · (obtain rfl : W = wy.drew := hW); go_simp; (try go_bits); (try rw [if_pos (by omega)]); (try with_reducible rfl)
                  (try simp only [Act.put, List.setIfInBounds_toArray, List.set_cons_succ, List.set_cons_zero])
                  refine wpE_take (i := 8) (oi := { dst := some 100, op := Go.Op.move (Go.Operand.tmp 99), type := 4, pos := "law.go:158", after := #[{ on := 7, ground := Go.Ground.data }, { on := 3, ground := Go.Ground.chain }], guard := none }) (v := ?_) rfl (by kernel_rfl) (fun _ _ _ h => h) (Or.inl ⟨by rfl, fun W hW => ?_⟩) hS ?_
                  rotate_left
                  · (obtain rfl : W = wy.drew := hW); go_simp; (try go_bits); (try rw [if_pos (by omega)]); (try with_reducible rfl)
                  (try simp only [Act.put, List.setIfInBounds_toArray, List.set_cons_succ, List.set_cons_zero])
                  refine wpE_take (i := 9) (oi := { dst := some 101, op := Go.Op.move (Go.Operand.tmp 17), type := 32, pos := "law.go:158", after := #[{ on := 8, ground := Go.Ground.guard }], guard := some (8, false) }) (v := ?_) rfl (by kernel_rfl) (fun _ _ _ h => h) (Or.inl ⟨by rfl, fun W hW => ?_⟩) hS ?_
                  rotate_left
                  · (obtain rfl : W = wy.drew := hW); go_simp; (try go_bits); (try rw [if_pos (by omega)]); (try with_reducible rfl)
                  (try simp only [Act.put, List.setIfInBounds_toArray, List.set_cons_succ, List.set_cons_zero])
                  refine wpE_take (i := 10) (oi := { dst := some 102, op := Go.Op.binOp Go.BinOp.eql 32 (Go.Operand.tmp 101) (Go.Operand.const (Go.Value.int Go.IntKind.i64 0)) 32, type := 4, pos := "law.go:158", after := #[{ on := 9, ground := Go.Ground.data }, { on := 8, ground := Go.Ground.guard }], guard := some (8, false) }) (v := .bool false) rfl (by kernel_rfl) (fun _ _ _ h => h) (Or.inl ⟨by rfl, fun W hW => ?_⟩) hS ?_
                  · (obtain rfl : W = wy.drew := hW); go_simp; (try go_bits); (try rw [if_pos (by omega)]); (try with_reducible rfl)
                  (try simp only [Act.put, List.setIfInBounds_toArray, List.set_cons_succ, List.set_cons_zero])
                  refine wpE_take (i := 11) (oi := { dst := some 103, op := Go.Op.move (Go.Operand.tmp 102), type := 4, pos := "law.go:158", after := #[{ on := 10, ground := Go.Ground.data }, { on := 8, ground := Go.Ground.chain }, { on := 8, ground := Go.Ground.guard }], guard := some (8, false) }) (v := ?_) rfl (by kernel_rfl) (fun _ _ _ h => h) (Or.inl ⟨by rfl, fun W hW => ?_⟩) hS ?_
                  rotate_left
                  · (obtain rfl : W = wy.drew := hW); go_simp; (try go_bits); (try rw [if_pos (by omega)]); (try with_reducible rfl)
                  (try simp only [Act.put, List.setIfInBounds_toArray, List.set_cons_succ, List.set_cons_zero])
                  refine wpE_take (i := 12) (oi := { dst := some 104, op := Go.Op.move (Go.Operand.tmp 16), type := 3, pos := "law.go:158", after := #[{ on := 11, ground := Go.Ground.guard }], guard := some (11, true) }) (v := undef) rfl (by kernel_rfl) (fun _ _ _ h => h) (Or.inr ⟨by rfl, rfl⟩) hS ?_
                  (try simp only [Act.put, List.setIfInBounds_toArray, List.set_cons_succ, List.set_cons_zero])
                  refine wpE_take (i := 13) (oi := { dst := some 105, op := Go.Op.move (Go.Operand.tmp 14), type := 3, pos := "law.go:158", after := #[{ on := 11, ground := Go.Ground.guard }], guard := some (11, true) }) (v := undef) rfl (by kernel_rfl) (fun _ _ _ h => h) (Or.inr ⟨by rfl, rfl⟩) hS ?_
                  (try simp only [Act.put, List.setIfInBounds_toArray, List.set_cons_succ, List.set_cons_zero])
                  refine wpE_take (i := 14) (oi := { dst := some 106, op := Go.Op.binOp Go.BinOp.neq 3 (Go.Operand.tmp 104) (Go.Operand.tmp 105) 3, type := 4, pos := "law.go:158", after := #[{ on := 12, ground := Go.Ground.data }, { on := 13, ground := Go.Ground.data }, { on := 11, ground := Go.Ground.guard }], guard := some (11, true) }) (v := undef) rfl (by kernel_rfl) (fun _ _ _ h => h) (Or.inr ⟨by rfl, rfl⟩) hS ?_
                  (try simp only [Act.put, List.setIfInBounds_toArray, List.set_cons_succ, List.set_cons_zero])
                  refine wpE_take (i := 15) (oi := { dst := some 107, op := Go.Op.move (Go.Operand.tmp 106), type := 4, pos := "law.go:158", after := #[{ on := 14, ground := Go.Ground.data }, { on := 11, ground := Go.Ground.chain }, { on := 11, ground := Go.Ground.guard }], guard := some (11, true) }) (v := undef) rfl (by kernel_rfl) (fun _ _ _ h => h) (Or.inr ⟨by rfl, rfl⟩) hS ?_
                  (try simp only [Act.put, List.setIfInBounds_toArray, List.set_cons_succ, List.set_cons_zero])
                  refine wpE_take (i := 16) (oi := { dst := some 108, op := Go.Op.move (Go.Operand.tmp 10), type := 31, pos := "law.go:158", after := #[{ on := 15, ground := Go.Ground.guard }], guard := some (15, false) }) (v := undef) rfl (by kernel_rfl) (fun _ _ _ h => h) (Or.inr ⟨by rfl, rfl⟩) hS ?_
                  (try simp only [Act.put, List.setIfInBounds_toArray, List.set_cons_succ, List.set_cons_zero])
                  refine wpE_take (i := 17) (oi := { dst := some 109, op := Go.Op.move (Go.Operand.tmp 16), type := 3, pos := "law.go:158", after := #[{ on := 15, ground := Go.Ground.guard }], guard := some (15, false) }) (v := undef) rfl (by kernel_rfl) (fun _ _ _ h => h) (Or.inr ⟨by rfl, rfl⟩) hS ?_
                  (try simp only [Act.put, List.setIfInBounds_toArray, List.set_cons_succ, List.set_cons_zero])
                  refine wpE_take (i := 18) (oi := { dst := some 110, op := Go.Op.call { callee := Go.Callee.value (Go.Operand.func 24), args := #[Go.Operand.tmp 108, Go.Operand.tmp 109], argTypes := #[31, 3] }, type := 3, pos := "law.go:158", after := #[{ on := 16, ground := Go.Ground.data }, { on := 17, ground := Go.Ground.data }, { on := 15, ground := Go.Ground.chain }, { on := 15, ground := Go.Ground.guard }], guard := some (15, false) }) (v := undef) rfl (by kernel_rfl) (fun _ _ _ h => h) (Or.inr ⟨by rfl, rfl⟩) hS ?_
                  (try simp only [Act.put, List.setIfInBounds_toArray, List.set_cons_succ, List.set_cons_zero])
                  refine wpE_take (i := 19) (oi := { dst := some 111, op := Go.Op.fieldAddr 36 (Go.Operand.tmp 13) 1, type := 0, pos := "law.go:158", after := #[{ on := 15, ground := Go.Ground.guard }], guard := some (15, false) }) (v := undef) rfl (by kernel_rfl) (fun _ _ _ h => h) (Or.inr ⟨by rfl, rfl⟩) hS ?_
                  (try simp only [Act.put, List.setIfInBounds_toArray, List.set_cons_succ, List.set_cons_zero])
                  refine wpE_take (i := 20) (oi := { dst := some 112, op := Go.Op.load 3 (Go.Operand.tmp 111), type := 3, pos := "law.go:158", after := #[{ on := 19, ground := Go.Ground.data }, { on := 15, ground := Go.Ground.guard }], guard := some (15, false) }) (v := undef) rfl (by kernel_rfl) (fun _ _ _ h => h) (Or.inr ⟨by rfl, rfl⟩) hS ?_
                  (try simp only [Act.put, List.setIfInBounds_toArray, List.set_cons_succ, List.set_cons_zero])
                  refine wpE_take (i := 21) (oi := { dst := some 113, op := Go.Op.binOp Go.BinOp.neq 3 (Go.Operand.tmp 110) (Go.Operand.tmp 112) 3, type := 4, pos := "law.go:158", after := #[{ on := 18, ground := Go.Ground.data }, { on := 20, ground := Go.Ground.data }, { on := 15, ground := Go.Ground.guard }], guard := some (15, false) }) (v := undef) rfl (by kernel_rfl) (fun _ _ _ h => h) (Or.inr ⟨by rfl, rfl⟩) hS ?_
                  (try simp only [Act.put, List.setIfInBounds_toArray, List.set_cons_succ, List.set_cons_zero])
                  refine wpE_take (i := 22) (oi := { dst := some 114, op := Go.Op.pick (Go.Operand.tmp 107) (Go.Operand.const (Go.Value.bool true)) (Go.Operand.tmp 113), type := 4, pos := "law.go:158", after := #[{ on := 15, ground := Go.Ground.data }, { on := 21, ground := Go.Ground.data }, { on := 11, ground := Go.Ground.guard }], guard := some (11, true) }) (v := undef) rfl (by kernel_rfl) (fun _ _ _ h => h) (Or.inr ⟨by rfl, rfl⟩) hS ?_
                  (try simp only [Act.put, List.setIfInBounds_toArray, List.set_cons_succ, List.set_cons_zero])
                  refine wpE_take (i := 23) (oi := { dst := some 115, op := Go.Op.pick (Go.Operand.tmp 103) (Go.Operand.tmp 114) (Go.Operand.const (Go.Value.bool false)), type := 4, pos := "law.go:158", after := #[{ on := 11, ground := Go.Ground.data }, { on := 22, ground := Go.Ground.data }, { on := 8, ground := Go.Ground.guard }], guard := some (8, false) }) (v := .bool false) rfl (by kernel_rfl) (fun _ _ _ h => h) (Or.inl ⟨by rfl, fun W hW => ?_⟩) hS ?_
                  · (obtain rfl : W = wy.drew := hW); go_simp; (try go_bits); (try rw [if_pos (by omega)]); (try with_reducible rfl)
                  (try simp only [Act.put, List.setIfInBounds_toArray, List.set_cons_succ, List.set_cons_zero])
                  refine wpE_last (oi := { dst := some 116, op := Go.Op.pick (Go.Operand.tmp 100) (Go.Operand.const (Go.Value.bool true)) (Go.Operand.tmp 115), type := 4, pos := "law.go:158", after := #[{ on := 8, ground := Go.Ground.data }, { on := 23, ground := Go.Ground.data }], guard := none }) rfl (by kernel_rfl) (by kernel_rfl) (by rfl) (fun K hK => ?_)
                  go_simp; (try go_bits); refine hK _ _ ?_; clear hK K
                  clear hS
                  go_wp2
                  go_meet
                  exact H5.out
              · have ha := okO_iff.1 ho
                clear ho
                have hsp : a = -1 ∨ ((a == -1) = false ∧ 1 ≤ a ∧ decide (a ≤ 8) = true) := by
                  rcases ha with h | h
                  · exact Or.inl h
                  · exact Or.inr ⟨by simp; omega, h.1, by simp; omega⟩
                clear ha
                go_wp2_with fail
                refine HT.out.mono ?_; rintro e wy ⟨rfl, own5, hS, hSt5⟩
                have hl := hS.loc H4.out.2.2
                have d1' := hl.1.cell 1
                simp only [List.getElem?_toArray, List.getElem?_cons_succ, List.getElem?_cons_zero] at d1'
                have hO := st_Owner (hSt5.new (Upd.refl _ _).drew) (q : Int)
                rw [show ownerP (s.ow.set q a) (q : Int) = a from by unfold ownerP; rw [if_pos (thereP_iff.2 (by simp; omega))]; simp [hq]] at hO
                have HO := Lib.hid hO
                have H5 := Lib.hid (show ∃ own' s', St w pp p1 (1 + k0) 0 (1 + h0) own' wy.drew s' ∧ Rng s'.ow ∧ s'.ow.length = 1 + k0 from ⟨own5, _, hSt5.new (Upd.refl _ _).drew, HK.out⟩)
                clear hS hSt5 hl HT HK d0 d1 H4 hO hq
                have hge : decide ((0 : Int) ≤ (q : Int)) = true := by simp
                rcases hsp with rfl | ⟨hne, h1, h2⟩
                all_goals
                  go_wp2_with fail
                  refine wpE_region (S := fun (W' : World) => W' = wy.drew) (s := 24) (by kernel_rfl) ?_
                  have hS : (fun (W' : World) => W' = wy.drew) _ := rfl
                  refine wpE_take (i := 0) (oi := { dst := some 92, op := Go.Op.move (Go.Operand.tmp 17), type := 32, pos := "law.go:158", after := #[], guard := none }) (v := ?_) rfl (by kernel_rfl) (fun _ _ _ h => h) (Or.inl ⟨by rfl, fun W hW => ?_⟩) hS ?_
                  rotate_left
                  · (obtain rfl : W = wy.drew := hW); go_simp; (try go_bits); (try rw [if_pos (by omega)]); (try with_reducible rfl)
                  (try simp only [Act.put, List.setIfInBounds_toArray, List.set_cons_succ, List.set_cons_zero])
                  refine wpE_take (i := 1) (oi := { dst := some 93, op := Go.Op.binOp Go.BinOp.eql 32 (Go.Operand.tmp 92) (Go.Operand.const (Go.Value.int Go.IntKind.i64 0)) 32, type := 4, pos := "law.go:158", after := #[{ on := 0, ground := Go.Ground.data }], guard := none }) (v := .bool true) rfl (by kernel_rfl) (fun _ _ _ h => h) (Or.inl ⟨by rfl, fun W hW => ?_⟩) hS ?_
                  · (obtain rfl : W = wy.drew := hW); go_simp; (try go_bits); (try rw [if_pos (by omega)]); (try with_reducible rfl)
                  (try simp only [Act.put, List.setIfInBounds_toArray, List.set_cons_succ, List.set_cons_zero])
                  refine wpE_take (i := 2) (oi := { dst := some 94, op := Go.Op.move (Go.Operand.tmp 18), type := 4, pos := "law.go:158", after := #[], guard := none }) (v := ?_) rfl (by kernel_rfl) (fun _ _ _ h => h) (Or.inl ⟨by rfl, fun W hW => ?_⟩) hS ?_
                  rotate_left
                  · (obtain rfl : W = wy.drew := hW); go_simp; (try go_bits); (try rw [if_pos (by omega)]); (try with_reducible rfl)
                  (try simp only [Act.put, List.setIfInBounds_toArray, List.set_cons_succ, List.set_cons_zero])
                  refine wpE_take (i := 3) (oi := { dst := some 95, op := Go.Op.move (Go.Operand.tmp 94), type := 4, pos := "law.go:158", after := #[{ on := 2, ground := Go.Ground.data }], guard := none }) (v := ?_) rfl (by kernel_rfl) (fun _ _ _ h => h) (Or.inl ⟨by rfl, fun W hW => ?_⟩) hS ?_
                  rotate_left
                  · (obtain rfl : W = wy.drew := hW); go_simp; (try go_bits); (try rw [if_pos (by omega)]); (try with_reducible rfl)
                  (try simp only [Act.put, List.setIfInBounds_toArray, List.set_cons_succ, List.set_cons_zero])
                  refine wpE_take (i := 4) (oi := { dst := some 96, op := Go.Op.move (Go.Operand.tmp 14), type := 3, pos := "law.go:158", after := #[{ on := 3, ground := Go.Ground.guard }], guard := some (3, true) }) (v := ?_) rfl (by kernel_rfl) (fun _ _ _ h => h) (Or.inl ⟨by rfl, fun W hW => ?_⟩) hS ?_
                  rotate_left
                  · (obtain rfl : W = wy.drew := hW); go_simp; (try go_bits); (try rw [if_pos (by omega)]); (try with_reducible rfl)
                  (try simp only [Act.put, List.setIfInBounds_toArray, List.set_cons_succ, List.set_cons_zero])
                  refine wpE_take (i := 5) (oi := { dst := some 97, op := Go.Op.binOp Go.BinOp.geq 3 (Go.Operand.tmp 96) (Go.Operand.const (Go.Value.int Go.IntKind.i64 0)) 3, type := 4, pos := "law.go:158", after := #[{ on := 4, ground := Go.Ground.data }, { on := 3, ground := Go.Ground.guard }], guard := some (3, true) }) (v := .bool true) rfl (by kernel_rfl) (fun _ _ _ h => h) (Or.inl ⟨by rfl, fun W hW => ?_⟩) hS ?_
                  · (obtain rfl : W = wy.drew := hW); go_simp; (try go_bits); (try rw [if_pos (by omega)]); (try with_reducible rfl)
                  (try simp only [Act.put, List.setIfInBounds_toArray, List.set_cons_succ, List.set_cons_zero])
                  refine wpE_take (i := 6) (oi := { dst := some 98, op := Go.Op.pick (Go.Operand.tmp 95) (Go.Operand.tmp 97) (Go.Operand.const (Go.Value.bool false)), type := 4, pos := "law.go:158", after := #[{ on := 3, ground := Go.Ground.data }, { on := 5, ground := Go.Ground.data }], guard := none }) (v := .bool true) rfl (by kernel_rfl) (fun _ _ _ h => h) (Or.inl ⟨by rfl, fun W hW => ?_⟩) hS ?_
                  · (obtain rfl : W = wy.drew := hW); go_simp; (try go_bits); (try rw [if_pos (by omega)]); (try with_reducible rfl)
                  (try simp only [Act.put, List.setIfInBounds_toArray, List.set_cons_succ, List.set_cons_zero])
                  refine wpE_take (i := 7) (oi := { dst := some 99, op := Go.Op.binOp Go.BinOp.neq 4 (Go.Operand.tmp 93) (Go.Operand.tmp 98) 4, type := 4, pos := "law.go:158", after := #[{ on := 1, ground := Go.Ground.data }, { on := 6, ground := Go.Ground.data }], guard := none }) (v := .bool false) rfl (by kernel_rfl) (fun _ _ _ h => h) (Or.inl ⟨by rfl, fun W hW => ?_⟩) hS ?_
                  · (obtain rfl : W = wy.drew := hW); go_simp; (try go_bits); (try rw [if_pos (by omega)]); (try with_reducible rfl)
                  (try simp only [Act.put, List.setIfInBounds_toArray, List.set_cons_succ, List.set_cons_zero])
                  refine wpE_take (i := 8) (oi := { dst := some 100, op := Go.Op.move (Go.Operand.tmp 99), type := 4, pos := "law.go:158", after := #[{ on := 7, ground := Go.Ground.data }, { on := 3, ground := Go.Ground.chain }], guard := none }) (v := ?_) rfl (by kernel_rfl) (fun _ _ _ h => h) (Or.inl ⟨by rfl, fun W hW => ?_⟩) hS ?_
                  rotate_left
                  · (obtain rfl : W = wy.drew := hW); go_simp; (try go_bits); (try rw [if_pos (by omega)]); (try with_reducible rfl)
                  (try simp only [Act.put, List.setIfInBounds_toArray, List.set_cons_succ, List.set_cons_zero])
                  refine wpE_take (i := 9) (oi := { dst := some 101, op := Go.Op.move (Go.Operand.tmp 17), type := 32, pos := "law.go:158", after := #[{ on := 8, ground := Go.Ground.guard }], guard := some (8, false) }) (v := ?_) rfl (by kernel_rfl) (fun _ _ _ h => h) (Or.inl ⟨by rfl, fun W hW => ?_⟩) hS ?_
                  rotate_left
                  · (obtain rfl : W = wy.drew := hW); go_simp; (try go_bits); (try rw [if_pos (by omega)]); (try with_reducible rfl)
                  (try simp only [Act.put, List.setIfInBounds_toArray, List.set_cons_succ, List.set_cons_zero])
                  refine wpE_take (i := 10) (oi := { dst := some 102, op := Go.Op.binOp Go.BinOp.eql 32 (Go.Operand.tmp 101) (Go.Operand.const (Go.Value.int Go.IntKind.i64 0)) 32, type := 4, pos := "law.go:158", after := #[{ on := 9, ground := Go.Ground.data }, { on := 8, ground := Go.Ground.guard }], guard := some (8, false) }) (v := .bool true) rfl (by kernel_rfl) (fun _ _ _ h => h) (Or.inl ⟨by rfl, fun W hW => ?_⟩) hS ?_
                  · (obtain rfl : W = wy.drew := hW); go_simp; (try go_bits); (try rw [if_pos (by omega)]); (try with_reducible rfl)
                  (try simp only [Act.put, List.setIfInBounds_toArray, List.set_cons_succ, List.set_cons_zero])
                  refine wpE_take (i := 11) (oi := { dst := some 103, op := Go.Op.move (Go.Operand.tmp 102), type := 4, pos := "law.go:158", after := #[{ on := 10, ground := Go.Ground.data }, { on := 8, ground := Go.Ground.chain }, { on := 8, ground := Go.Ground.guard }], guard := some (8, false) }) (v := ?_) rfl (by kernel_rfl) (fun _ _ _ h => h) (Or.inl ⟨by rfl, fun W hW => ?_⟩) hS ?_
                  rotate_left
                  · (obtain rfl : W = wy.drew := hW); go_simp; (try go_bits); (try rw [if_pos (by omega)]); (try with_reducible rfl)
                  (try simp only [Act.put, List.setIfInBounds_toArray, List.set_cons_succ, List.set_cons_zero])
                  refine wpE_take (i := 12) (oi := { dst := some 104, op := Go.Op.move (Go.Operand.tmp 16), type := 3, pos := "law.go:158", after := #[{ on := 11, ground := Go.Ground.guard }], guard := some (11, true) }) (v := ?_) rfl (by kernel_rfl) (fun _ _ _ h => h) (Or.inl ⟨by rfl, fun W hW => ?_⟩) hS ?_
                  rotate_left
                  · (obtain rfl : W = wy.drew := hW); go_simp; (try go_bits); (try rw [if_pos (by omega)]); (try with_reducible rfl)
                  (try simp only [Act.put, List.setIfInBounds_toArray, List.set_cons_succ, List.set_cons_zero])
                  refine wpE_take (i := 13) (oi := { dst := some 105, op := Go.Op.move (Go.Operand.tmp 14), type := 3, pos := "law.go:158", after := #[{ on := 11, ground := Go.Ground.guard }], guard := some (11, true) }) (v := ?_) rfl (by kernel_rfl) (fun _ _ _ h => h) (Or.inl ⟨by rfl, fun W hW => ?_⟩) hS ?_
                  rotate_left
                  · (obtain rfl : W = wy.drew := hW); go_simp; (try go_bits); (try rw [if_pos (by omega)]); (try with_reducible rfl)
                  (try simp only [Act.put, List.setIfInBounds_toArray, List.set_cons_succ, List.set_cons_zero])
                  refine wpE_take (i := 14) (oi := { dst := some 106, op := Go.Op.binOp Go.BinOp.neq 3 (Go.Operand.tmp 104) (Go.Operand.tmp 105) 3, type := 4, pos := "law.go:158", after := #[{ on := 12, ground := Go.Ground.data }, { on := 13, ground := Go.Ground.data }, { on := 11, ground := Go.Ground.guard }], guard := some (11, true) }) (v := .bool false) rfl (by kernel_rfl) (fun _ _ _ h => h) (Or.inl ⟨by rfl, fun W hW => ?_⟩) hS ?_
                  · (obtain rfl : W = wy.drew := hW); go_simp; (try go_bits); (try rw [if_pos (by omega)]); (try with_reducible rfl)
                  (try simp only [Act.put, List.setIfInBounds_toArray, List.set_cons_succ, List.set_cons_zero])
                  refine wpE_take (i := 15) (oi := { dst := some 107, op := Go.Op.move (Go.Operand.tmp 106), type := 4, pos := "law.go:158", after := #[{ on := 14, ground := Go.Ground.data }, { on := 11, ground := Go.Ground.chain }, { on := 11, ground := Go.Ground.guard }], guard := some (11, true) }) (v := ?_) rfl (by kernel_rfl) (fun _ _ _ h => h) (Or.inl ⟨by rfl, fun W hW => ?_⟩) hS ?_
                  rotate_left
                  · (obtain rfl : W = wy.drew := hW); go_simp; (try go_bits); (try rw [if_pos (by omega)]); (try with_reducible rfl)
                  (try simp only [Act.put, List.setIfInBounds_toArray, List.set_cons_succ, List.set_cons_zero])
                  refine wpE_take (i := 16) (oi := { dst := some 108, op := Go.Op.move (Go.Operand.tmp 10), type := 31, pos := "law.go:158", after := #[{ on := 15, ground := Go.Ground.guard }], guard := some (15, false) }) (v := ?_) rfl (by kernel_rfl) (fun _ _ _ h => h) (Or.inl ⟨by rfl, fun W hW => ?_⟩) hS ?_
                  rotate_left
                  · (obtain rfl : W = wy.drew := hW); go_simp; (try go_bits); (try rw [if_pos (by omega)]); (try with_reducible rfl)
                  (try simp only [Act.put, List.setIfInBounds_toArray, List.set_cons_succ, List.set_cons_zero])
                  refine wpE_take (i := 17) (oi := { dst := some 109, op := Go.Op.move (Go.Operand.tmp 16), type := 3, pos := "law.go:158", after := #[{ on := 15, ground := Go.Ground.guard }], guard := some (15, false) }) (v := ?_) rfl (by kernel_rfl) (fun _ _ _ h => h) (Or.inl ⟨by rfl, fun W hW => ?_⟩) hS ?_
                  rotate_left
                  · (obtain rfl : W = wy.drew := hW); go_simp; (try go_bits); (try rw [if_pos (by omega)]); (try with_reducible rfl)
                  (try simp only [Act.put, List.setIfInBounds_toArray, List.set_cons_succ, List.set_cons_zero])
                  refine wpE_take (i := 19) (oi := { dst := some 111, op := Go.Op.fieldAddr 36 (Go.Operand.tmp 13) 1, type := 0, pos := "law.go:158", after := #[{ on := 15, ground := Go.Ground.guard }], guard := some (15, false) }) (v := ?_) rfl (by kernel_rfl) (fun _ _ _ h => h) (Or.inl ⟨by rfl, fun W hW => ?_⟩) hS ?_
                  rotate_left
                  · (obtain rfl : W = wy.drew := hW); go_simp; (try go_bits); (try rw [if_pos (by omega)]); (try with_reducible rfl)
                  (try simp only [Act.put, List.setIfInBounds_toArray, List.set_cons_succ, List.set_cons_zero])
                  refine wpE_take (i := 20) (oi := { dst := some 112, op := Go.Op.load 3 (Go.Operand.tmp 111), type := 3, pos := "law.go:158", after := #[{ on := 19, ground := Go.Ground.data }, { on := 15, ground := Go.Ground.guard }], guard := some (15, false) }) (v := ?_) rfl (by kernel_rfl) (fun _ _ _ h => h) (Or.inl ⟨by rfl, fun W hW => ?_⟩) hS ?_
                  rotate_left
                  · (obtain rfl : W = wy.drew := hW); go_simp; (try go_bits); (try rw [if_pos (by omega)]); (try with_reducible rfl)
                  (try simp only [Act.put, List.setIfInBounds_toArray, List.set_cons_succ, List.set_cons_zero])
                  refine wpE_only (i := 18) (oi := { dst := some 110, op := Go.Op.call { callee := Go.Callee.value (Go.Operand.func 24), args := #[Go.Operand.tmp 108, Go.Operand.tmp 109], argTypes := #[31, 3] }, type := 3, pos := "law.go:158", after := #[{ on := 16, ground := Go.Ground.data }, { on := 17, ground := Go.Ground.data }, { on := 15, ground := Go.Ground.chain }, { on := 15, ground := Go.Ground.guard }], guard := some (15, false) }) rfl (by kernel_rfl) (by rfl) (fun K hK => ?_)
                  go_simp; refine HO.out.mono ?_; rintro e wz ⟨rfl, rfl⟩; refine hK _ _ hS ?_; clear hK K
                  (try simp only [Act.put, List.setIfInBounds_toArray, List.set_cons_succ, List.set_cons_zero])
                  refine wpE_take (i := 21) (oi := { dst := some 113, op := Go.Op.binOp Go.BinOp.neq 3 (Go.Operand.tmp 110) (Go.Operand.tmp 112) 3, type := 4, pos := "law.go:158", after := #[{ on := 18, ground := Go.Ground.data }, { on := 20, ground := Go.Ground.data }, { on := 15, ground := Go.Ground.guard }], guard := some (15, false) }) (v := .bool false) rfl (by kernel_rfl) (fun _ _ _ h => h) (Or.inl ⟨by rfl, fun W hW => ?_⟩) hS ?_
                  · (obtain rfl : W = wy.drew := hW); go_simp; (try go_bits); (try rw [if_pos (by omega)]); (try with_reducible rfl)
                  (try simp only [Act.put, List.setIfInBounds_toArray, List.set_cons_succ, List.set_cons_zero])
                  refine wpE_take (i := 22) (oi := { dst := some 114, op := Go.Op.pick (Go.Operand.tmp 107) (Go.Operand.const (Go.Value.bool true)) (Go.Operand.tmp 113), type := 4, pos := "law.go:158", after := #[{ on := 15, ground := Go.Ground.data }, { on := 21, ground := Go.Ground.data }, { on := 11, ground := Go.Ground.guard }], guard := some (11, true) }) (v := .bool false) rfl (by kernel_rfl) (fun _ _ _ h => h) (Or.inl ⟨by rfl, fun W hW => ?_⟩) hS ?_
                  · (obtain rfl : W = wy.drew := hW); go_simp; (try go_bits); (try rw [if_pos (by omega)]); (try with_reducible rfl)
                  (try simp only [Act.put, List.setIfInBounds_toArray, List.set_cons_succ, List.set_cons_zero])
                  refine wpE_take (i := 23) (oi := { dst := some 115, op := Go.Op.pick (Go.Operand.tmp 103) (Go.Operand.tmp 114) (Go.Operand.const (Go.Value.bool false)), type := 4, pos := "law.go:158", after := #[{ on := 11, ground := Go.Ground.data }, { on := 22, ground := Go.Ground.data }, { on := 8, ground := Go.Ground.guard }], guard := some (8, false) }) (v := .bool false) rfl (by kernel_rfl) (fun _ _ _ h => h) (Or.inl ⟨by rfl, fun W hW => ?_⟩) hS ?_
                  · (obtain rfl : W = wy.drew := hW); go_simp; (try go_bits); (try rw [if_pos (by omega)]); (try with_reducible rfl)
                  (try simp only [Act.put, List.setIfInBounds_toArray, List.set_cons_succ, List.set_cons_zero])
                  refine wpE_last (oi := { dst := some 116, op := Go.Op.pick (Go.Operand.tmp 100) (Go.Operand.const (Go.Value.bool true)) (Go.Operand.tmp 115), type := 4, pos := "law.go:158", after := #[{ on := 8, ground := Go.Ground.data }, { on := 23, ground := Go.Ground.data }], guard := none }) rfl (by kernel_rfl) (by kernel_rfl) (by rfl) (fun K hK => ?_)
                  go_simp; (try go_bits); refine hK _ _ ?_; clear hK K
                  clear hS
                  go_wp2
                  go_meet
                  exact H5.out
            · have hT := st_Release (by omega) H4.out.1 a
              have HT := Lib.hid hT
              clear hT
              go_wp2_with fail
              refine HT.out.mono ?_; rintro e wy ⟨rfl, own5, hS, hSt5⟩
              have H5 := Lib.hid (show ∃ own' s', St w pp p1 (1 + k0) 0 (1 + h0) own' wy s' ∧ Rng s'.ow ∧ s'.ow.length = 1 + k0 from
                ⟨own5, _, hSt5, H4.out.2.1.1.rel a, (relP_len _ _ _ _).trans H4.out.2.1.2⟩)
              clear hS hSt5 HT d0 d1 H4
              go_wp2
              all_goals
                go_meet
                exact H5.out
            · have hT := st_Ack (by omega) H4.out.1 a ha0 ha1
              have HT := Lib.hid hT
              clear hT
              go_wp2_with fail
              refine HT.out.mono ?_; rintro e wy ⟨rfl, own5, hS, hSt5⟩
              have H5 := Lib.hid (show ∃ own' s', St w pp p1 (1 + k0) 0 (1 + h0) own' wy s' ∧ Rng s'.ow ∧ s'.ow.length = 1 + k0 from
                ⟨own5, _, hSt5, Rng.ack (s := s.z) H4.out.2.1.1 a, (ackP_len _ _ _ _).trans H4.out.2.1.2⟩)
              clear hS hSt5 HT d0 d1 H4
              go_wp2
              go_meet
              exact H5.out
            · have hT := st_AckDevices H4.out.1
              have HT := Lib.hid hT
              clear hT
              go_wp2_with fail
              refine HT.out.mono ?_; rintro e wy ⟨rfl, own5, hS, hSt5⟩
              have H5 := Lib.hid (show ∃ own' s', St w pp p1 (1 + k0) 0 (1 + h0) own' wy s' ∧ Rng s'.ow ∧ s'.ow.length = 1 + k0 from
                ⟨own5, _, hSt5, Rng.ackN (s := s.z) H4.out.2.1.1 _ _, (ackN_len _ _ _).1.trans H4.out.2.1.2⟩)
              clear hS hSt5 HT d0 d1 H4
              go_wp2
              go_meet
              exact H5.out
            · have H5 := Lib.hid (show ∃ own' s', St w pp p1 (1 + k0) 0 (1 + h0) own' W s' ∧ Rng s'.ow ∧ s'.ow.length = 1 + k0 from
                ⟨own4, s, H4.out.1, H4.out.2.1⟩)
              clear d0 d1 H4
              go_wp2
              go_meet
              exact H5.out
          case rest =>
            obtain ⟨own5, s5, hSt5, hRs5, hln5⟩ := hcut.out
            have H5 := Lib.hid (And.intro hSt5 (And.intro hRs5 hln5))
            clear hSt5 hRs5 hln5 hcut d0 d1 H4 HW
            go_wp2
            go_loop [19, 20] (fun al o => ∃ z : Int, -2 ≤ z ∧ z ≤ 9 ∧ o = .int .i64 z ∧ al = .int .i64 (below s5.ow z : Int)) (fun _ o => (9 - intOf o).toNat)
            case atStart => exact ⟨-2, by omega, by omega, rfl, by rw [below_none H5.out.2.1]; rfl⟩
            case round =>
              obtain ⟨z, hz0, hz1, rfl, rfl⟩ := hrel
              by_cases hz : z ≤ 8
              · have hC := st_Count H5.out.1 z
                have hb1 := below_le s5.ow z
                have hb2 := countP_le s5.ow z
                rw [H5.out.2.2] at hb1 hb2
                have HS := Lib.hid (below_step s5.ow z)
                have HC := Lib.hid hC
                clear hC
                generalize countP s5.ow z = cn at *
                generalize below s5.ow z = bl at *
                go_wp2_with fail
                refine HC.out.mono ?_; rintro e wz ⟨rfl, rfl⟩
                go_wp2
                go_round
                case rel => exact ⟨z + 1, by omega, by omega, by go_num, by rw [HS.out]; go_num⟩
                case measure => simp [intOf]; omega
              · obtain rfl : z = 9 := by omega
                rw [below_all H5.out.2.1, H5.out.2.2]
                have hne : (((1 + k0 : Nat) : Int) != 1 + (k0 : Int)) = false := by simp
                go_wp2
                exact ⟨⟨k + 1, by omega, by go_num, own5, s5, H5.out⟩, by simp [intOf]; omega⟩
        · rw [show (((j + 1 : Nat) : Int) - 1) = (j : Int) from by omega]
          have hO := st_Owner H4.out.1 (j : Int)
          obtain ⟨o', ho'⟩ : ∃ o', s.ow[j]? = some o' := ⟨_, List.getElem?_eq_getElem (by rw [H4.out.2.1.2]; omega)⟩
          have hoo : ownerP s.ow j = o' := by
            unfold ownerP; rw [if_pos (thereP_iff.2 (by rw [H4.out.2.1.2]; omega))]; simp [ho']
          rw [hoo] at hO
          have HO := Lib.hid hO
          have HV := Lib.hid ho'
          clear hO hoo ho'
          by_cases he : o' = 0
          · subst he
            go_wp2_with fail
            refine HO.out.mono ?_; rintro e wz ⟨rfl, rfl⟩
            go_wp2
            go_round
            case rel => exact ⟨j, j, by omega, by go_num, rfl, WasP.free_ HV.out⟩
            case measure => simp [intOf]
          · have hne : (o' == 0) = false := by simpa using he
            go_wp2_with fail
            refine HO.out.mono ?_; rintro e wz ⟨rfl, rfl⟩
            go_wp2
            go_round
            case rel => exact ⟨j, z, by omega, by go_num, rfl, HW.out.not_ (by rw [HV.out]; simpa using he)⟩
            case measure => simp [intOf]
    · obtain rfl : k = m := by omega
      obtain ⟨own3, s, hSt, hRs, hln⟩ := HR.out
      have hU := Lib.hid hSt.upd
      clear hSt hRs hln HR
      go_wp2_with fail
      refine (awake_calls _).mono ?_; rintro e w4 ⟨rfl, hU4⟩
      go_wp2
      go_ret
      exact ⟨rfl, hU.out.trans hU4⟩
end Go.Proofs.Ytpodeclkgcgpgaa
