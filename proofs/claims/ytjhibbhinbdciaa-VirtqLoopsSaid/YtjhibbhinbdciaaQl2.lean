import Derived.Test.YtjhibbhinbdciaaQl1
/- VirtqLoops: the walk. -/
namespace Go.Proofs.Ytjhibbhinbdciaa
set_option linter.unusedVariables false
set_option linter.unusedSimpArgs false
open Go.RowKit
set_option maxRecDepth 100000
/-- a queue and both memories, and what was there -/
structure LB (W : World) (p1 p2 xb p n : Nat) (q : Qu) (m : Nat → Int) (own : Nat → Nat) (w : World) : Prop where
  upd : Upd (fun _ => False) W w
  old : ∀ b, b < W.heap.size → own b = 0
  bx : Blk w xb 26 #[.pointer (some ⟨p1, 0, none⟩), .pointer (some ⟨p2, 0, none⟩)] ∧ own xb = 9
  q : QAt own 3 w p q
  a : MemAt ramK own 1 w p1 0 n m
  r : MemAt refK own 2 w p2 0 n m
section
variable {W : World} {p1 p2 xb p n : Nat} {q q' : Qu} {m m' : Nat → Int} {own own' : Nat → Nat} {w w' : World}
theorem LB.old_ (h : LB W p1 p2 xb p n q m own w) {C : Nat → Prop} (hS : Step C own w own' w') : ∀ b, b < W.heap.size → own' b = 0 := fun b hb => (hS.old b (Nat.lt_of_lt_of_le hb h.upd.size)).trans (h.old b hb)
theorem LB.upd_ (h : LB W p1 p2 xb p n q m own w) {C : Nat → Prop} (hC : ¬ C 0) (hS : Step C own w own' w') : Upd (fun _ => False) W w' := h.upd.trans' hS.upd (fun i hi e => by rw [h.old i hi] at e; exact hC e)
theorem LB.none_ (h : LB W p1 p2 xb p n q m own w) (hS : Step (fun _ => False) own w own' w') : LB W p1 p2 xb p n q m own' w' :=
  ⟨h.upd_ (fun h => h) hS, h.old_ hS, hS.blk h.bx.1 h.bx.2 (fun h => h), h.q.step hS (fun h => h), h.a.step hS (fun h => h), h.r.step hS (fun h => h)⟩
theorem LB.goQ (h : LB W p1 p2 xb p n q m own w) (hS : Step (· = 3) own w own' w') (hq : QAt own' 3 w' p q') : LB W p1 p2 xb p n q' m own' w' :=
  ⟨h.upd_ (by decide) hS, h.old_ hS, hS.blk h.bx.1 h.bx.2 (by decide), hq, h.a.step hS (by decide), h.r.step hS (by decide)⟩
theorem LB.goM (h : LB W p1 p2 xb p n q m own w) (hS : Step (fun x => x = 1 ∨ x = 2) own w own' w') (ha : MemAt ramK own' 1 w' p1 0 n m') (hr : MemAt refK own' 2 w' p2 0 n m') : LB W p1 p2 xb p n q m' own' w' :=
  ⟨h.upd_ (by decide) hS, h.old_ hS, hS.blk h.bx.1 h.bx.2 (by decide), h.q.step hS (by decide), ha, hr⟩
theorem LB.goP (h : LB W p1 p2 xb p n q m own w) (hS : Step (fun x => x = 3 ∨ x = 1) own w own' w') (hq : QAt own' 3 w' p q') (ha : MemAt ramK own' 1 w' p1 0 n m) : LB W p1 p2 xb p n q' m own' w' :=
  ⟨h.upd_ (by decide) hS, h.old_ hS, hS.blk h.bx.1 h.bx.2 (by decide), hq, ha, h.r.step hS (by decide)⟩
theorem LB.cells (h : LB W p1 p2 xb p n q m own w) : w.cell? ⟨xb, 0, none⟩ = some (.pointer (some ⟨p1, 0, none⟩)) ∧ w.cell? ⟨xb, 1, none⟩ = some (.pointer (some ⟨p2, 0, none⟩)) := ⟨h.bx.1.cell 0, h.bx.1.cell 1⟩
end
theorem okSetK (K : Nat) (h : K = 1 ∨ K = 2 ∨ K = 4 ∨ K = 8 ∨ K = 16 ∨ K = 32 ∨ K = 64) : setR qu0 (K : Int) 256 2048 2304 = 0 ∧ setQ qu0 (K : Int) 256 2048 2304 = ⟨true, false, K, 256, 2048, 2304, 0, 0⟩ := by
  rcases h with rfl | rfl | rfl | rfl | rfl | rfl | rfl <;> exact ⟨by kernel_rfl, by kernel_rfl⟩
theorem quOkL (k : Nat) (d : Bool) (t : Nat) (hk : 1 ≤ k ∧ k ≤ 64) (ht : t < 65536) : QuOk ⟨true, d, k, 256, 2048, 2304, t, 0⟩ :=
  ⟨fun _ => hk, show 256 < 1152921504606846976 by decide, show 2048 < 1152921504606846976 by decide, show 2304 < 1152921504606846976 by decide, ht, show 0 < 65536 by decide⟩
theorem dead_next (base n : Nat) (m : Nat → Int) (k t : Nat) : nxQ base n m ⟨true, true, k, 256, 2048, 2304, t, 0⟩ = ⟨0, [], [], false, 33, ⟨true, true, k, 256, 2048, 2304, t, 0⟩⟩ := rfl
theorem dead_push (base n : Nat) (m : Nat → Int) (k t : Nat) (h v : Int) : pushQ base n m ⟨true, true, k, 256, 2048, 2304, t, 0⟩ h v = (33, m, ⟨true, true, k, 256, 2048, 2304, t, 0⟩) := rfl
theorem meas_lq (n k : Nat) (h : k < n) : n - (intOf (.int .i64 ((k : Int) + 1))).toNat < n - (intOf (.int .i64 (k : Int))).toNat := by
  have e1 : (intOf (.int .i64 ((k : Int) + 1))).toNat = k + 1 := by show ((k : Int) + 1).toNat = k + 1; omega
  have e2 : (intOf (.int .i64 (k : Int))).toNat = k := by show ((k : Int)).toNat = k; omega
  rw [e1, e2]
  omega
theorem meas_lq' (n k : Nat) (h : k < n) (hn : n ≤ 64) : n - (intOf (.int .i64 (wrap64 ((k : Int) + 1)))).toNat < n - (intOf (.int .i64 (k : Int))).toNat := by
  rw [IntWalk.wrap64_in ((k : Int) + 1) (by omega)]
  exact meas_lq n k h
set_option maxHeartbeats 8000000 in
theorem loops_calls (size from_ to_ : Int) (hs : -9223372036854775808 ≤ size ∧ size ≤ 9223372036854775807) (hf : -9223372036854775808 ≤ from_ ∧ from_ ≤ 9223372036854775807) (ht : -9223372036854775808 ≤ to_ ∧ to_ ≤ 9223372036854775807) (w : World) :
    Calls Try.prog 7 #[.int .i64 size, .int .i64 from_, .int .i64 to_] w fun x w' => x = .returned (.bool true) ∧ Upd (fun _ => False) w w' := by
  have hMm := law_Memory 2 (by decide) (by decide) (fun _ => 0) 1 2 (by decide) w
  rw [show ((2 : Nat) : Int) = 2 from rfl] at hMm
  have HM := Lib.hid hMm
  obtain ⟨s7, hs7, hs8⟩ : ∃ s : Nat, size % 7 = (s : Int) ∧ s < 7 := ⟨(size % 7).toNat, by omega, by omega⟩
  have hp1 := fun w => place_calls size 7 w hs.1 hs.2 (by decide) (by decide)
  rw [hs7] at hp1
  have HP1 := Lib.hid hp1
  have HB0 := Lib.hid (And.intro hf (And.intro ht hs8))
  clear hMm hp1 hs7 hs hf ht
  go_enter Try.func7, Try.ntmps7
  go_wp2_with fail
  ((with_reducible refine HM.out.mono ?_); rintro x w1 ⟨p1, p2, own1, rfl, hS1, hm1, hm2⟩)
  have hS2 : Step (fun _ => False) own1 w1 (ext own1 w1 9) (w1.alloc (.cells #[.pointer (some ⟨p1, 0, none⟩), .pointer (some ⟨p2, 0, none⟩)] 26)) := ⟨(Upd.refl _ _).alloc _, fun b hb => ext_old _ _ _ hb⟩
  have HN := Lib.hid (q_New (ext own1 w1 9) 3 (w1.alloc (.cells #[.pointer (some ⟨p1, 0, none⟩), .pointer (some ⟨p2, 0, none⟩)] 26)))
  have hO : ∀ b, b < w.heap.size → ext own1 w1 9 b = 0 := fun b hb => (ext_old own1 w1 9 (Nat.lt_of_lt_of_le hb hS1.upd.size)).trans (hS1.old b hb)
  have H1 := Lib.hid (And.intro ((hS1.trans hS2).upd.mono (fun _ _ h => h.elim) : Upd (fun _ => False) w _) (And.intro hO (And.intro (And.intro (hm1.step hS2 (fun h => h)) (hm2.step hS2 (fun h => h))) (And.intro (Blk.new w1 26 #[.pointer (some ⟨p1, 0, none⟩), .pointer (some ⟨p2, 0, none⟩)]) (show ext own1 w1 9 w1.heap.size = 9 from ext_new _ _ _ (Nat.le_refl _))))))
  clear hS1 hm1 hm2 hS2 hO HM
  go_wp2_with fail
  ((with_reducible refine HN.out.mono ?_); rintro x w2 ⟨p, own2, rfl, hS2, hQ2⟩)
  have HL := Lib.hid (show LB w p1 p2 w1.heap.size p 2 qu0 (fun _ => 0) own2 w2 from ⟨H1.out.1.trans hS2.upd, fun b hb => (hS2.old b (Nat.lt_of_lt_of_le hb H1.out.1.size)).trans (H1.out.2.1 b hb), hS2.blk H1.out.2.2.2.1 H1.out.2.2.2.2 (fun h => h), hQ2, H1.out.2.2.1.1.step hS2 (fun h => h), H1.out.2.2.1.2.step hS2 (fun h => h)⟩)
  clear hS2 hQ2 H1 HN
  generalize w1.heap.size = xb at *
  go_upto_region 3 with fail
  go_cut [10] (fun s10 wx => ∃ K : Nat, s10 = .int .i64 (K : Int) ∧ (K = 1 ∨ K = 2 ∨ K = 4 ∨ K = 8 ∨ K = 16 ∨ K = 32 ∨ K = 64) ∧ wx = w2)
  case first =>
    go_wp2_with fail
    ((with_reducible refine (HP1.out _).mono ?_); rintro x wz ⟨rfl, rfl⟩)
    have hc : s7 = 0 ∨ s7 = 1 ∨ s7 = 2 ∨ s7 = 3 ∨ s7 = 4 ∨ s7 = 5 ∨ s7 = 6 := by have := HB0.out.2.2; omega
    clear HP1 HB0
    rcases hc with rfl | rfl | rfl | rfl | rfl | rfl | rfl
    · go_wp2
      go_meet
      exact ⟨1, rfl, by decide, rfl⟩
    · go_wp2
      go_meet
      exact ⟨2, rfl, by decide, rfl⟩
    · go_wp2
      go_meet
      exact ⟨4, rfl, by decide, rfl⟩
    · go_wp2
      go_meet
      exact ⟨8, rfl, by decide, rfl⟩
    · go_wp2
      go_meet
      exact ⟨16, rfl, by decide, rfl⟩
    · go_wp2
      go_meet
      exact ⟨32, rfl, by decide, rfl⟩
    · go_wp2
      go_meet
      exact ⟨64, rfl, by decide, rfl⟩
  case rest =>
    obtain ⟨K, rfl, hK, rfl⟩ := hcut
    have hK64 : 1 ≤ K ∧ K ≤ 64 := by omega
    obtain ⟨e1, e2⟩ := okSetK K hK
    have hSe := q_Setup HL.out.q (K : Int) 256 2048 2304 (by omega) (by decide) (by decide) (by decide)
    rw [e1, e2, show ((256 : Nat) : Int) = 256 from rfl, show ((2048 : Nat) : Int) = 2048 from rfl, show ((2304 : Nat) : Int) = 2304 from rfl] at hSe
    have HSe := Lib.hid hSe
    obtain ⟨A, hA, hAK⟩ : ∃ z : Nat, from_ % (K : Int) = (z : Int) ∧ z < K := ⟨(from_ % (K : Int)).toNat, by have := Int.emod_nonneg from_ (b := (K : Int)) (by omega); omega, by have := Int.emod_nonneg from_ (b := (K : Int)) (by omega); have := Int.emod_lt_of_pos from_ (b := (K : Int)) (by omega); omega⟩
    obtain ⟨B, hB, hBA⟩ : ∃ z : Nat, to_ % ((A : Int) + 1) = (z : Int) ∧ z ≤ A := ⟨(to_ % ((A : Int) + 1)).toNat, by have := Int.emod_nonneg to_ (b := (A : Int) + 1) (by omega); omega, by have := Int.emod_nonneg to_ (b := (A : Int) + 1) (by omega); have := Int.emod_lt_of_pos to_ (b := (A : Int) + 1) (by omega); omega⟩
    have hp2 := fun w => place_calls from_ (K : Int) w HB0.out.1.1 HB0.out.1.2 (by omega) (by omega)
    have hp3 := fun w => place_calls to_ ((A : Int) + 1) w HB0.out.2.1.1 HB0.out.2.1.2 (by omega) (by omega)
    rw [hA] at hp2
    rw [hB] at hp3
    have HP2 := Lib.hid hp2
    have HP3 := Lib.hid hp3
    have HK := Lib.hid (And.intro hK64 (And.intro hAK (And.intro hBA hK)))
    have hwA : wrap64 ((A : Int) + 1) = (A : Int) + 1 := IntWalk.wrap64_in _ (by omega)
    clear hSe hA hB hp2 hp3 HP1 HB0 hK64 hAK hBA hK e1 e2
    go_wp2_with fail
    ((with_reducible refine HSe.out.mono ?_); rintro x w3 ⟨rfl, hS3, hQ3⟩)
    have HL3 := Lib.hid (HL.out.goQ hS3 hQ3)
    clear hS3 hQ3 HSe HL
    go_wp2_with fail
    ((with_reducible refine (HP2.out _).mono ?_); rintro x wz ⟨rfl, rfl⟩)
    go_wp2_with fail
    (try rw [hwA])
    ((with_reducible refine (HP3.out _).mono ?_); rintro x wz ⟨rfl, rfl⟩)
    clear HP2 HP3 hwA
    go_wp2_with fail
    go_loopw [13] (fun i wr => ∃ (j : Nat), j ≤ K ∧ i = .int .i64 (j : Int) ∧ Hid (∃ own m nx, LB w p1 p2 xb p 2 ⟨true, false, K, 256, 2048, 2304, 0, 0⟩ m own wr ∧ Rounds m K nx 0 j ∧ (∀ x, x < K → nx x < K) ∧ num m 2052 2 = 0)) (fun i _ => K - (intOf i).toNat)
    case atStart => exact ⟨0, by omega, rfl, _, _, fun _ => 0, HL3.out, fun j h1 h2 => by omega, fun x _ => by have := HK.out.1; show 0 < K; omega, by decide⟩
    case round =>
      obtain ⟨j, hj, rfl, HLo⟩ := hrel
      clear HL3
      obtain ⟨own3, m, nx, hL, hR, hnx, hz⟩ := HLo.out
      obtain ⟨x0, x1⟩ := hL.cells
      by_cases hlt : j < K
      · have hji : (j : Int) < (K : Int) := by omega
        obtain ⟨X, hX⟩ : ∃ x, (j + 1) % K = x := ⟨_, rfl⟩
        have hXK : X < K := hX ▸ Nat.mod_lt _ (by omega)
        have hz0 : ¬ K = 0 := by omega
        have hw1 : wrap64 ((j : Int) + 1) = (j : Int) + 1 := IntWalk.wrap64_in _ (by have := HK.out.1; omega)
        have htm : Int.tmod ((j : Int) + 1) (K : Int) = (X : Int) := by
          rw [Int.tmod_eq_emod_of_nonneg (by omega), ← hX, Int.natCast_emod, show ((j + 1 : Nat) : Int) = (j : Int) + 1 by omega]
        have HPu := Lib.hid (law13_Put (by decide) (hL.none_ ((Step.refl (fun _ => False) own3 wr).drew)).a (hL.none_ ((Step.refl (fun _ => False) own3 wr).drew)).r (j : Int) 4096 8 1 (X : Int) (by have := HK.out.1; omega) (by decide) (by decide) (by decide) (by have := HK.out.1; omega))
        have HI := Lib.hid (And.intro (hL.none_ ((Step.refl (fun _ => False) own3 wr).drew)) (And.intro hR (And.intro hnx hz)))
        have HQ := Lib.hid hw1
        have HX := Lib.hid hXK
        clear hL hR hnx hz HLo hX hXK
        go_wp2_with fail
        refine wpE_region (S := fun (W' : World) => W'.cell? ⟨xb, 0, none⟩ = some (.pointer (some ⟨p1, 0, none⟩)) ∧ W'.cell? ⟨xb, 1, none⟩ = some (.pointer (some ⟨p2, 0, none⟩))) (s := 6) (by kernel_rfl) ?_
        have hS : (fun (W' : World) => W'.cell? ⟨xb, 0, none⟩ = some (.pointer (some ⟨p1, 0, none⟩)) ∧ W'.cell? ⟨xb, 1, none⟩ = some (.pointer (some ⟨p2, 0, none⟩))) _ := ⟨x0, x1⟩
        refine wpE_take (i := 0) (oi := { dst := some 50, op := Go.Op.load 26 (Go.Operand.tmp 7), type := 26, pos := "law.go:191", after := #[], guard := none }) (v := ?_) rfl (by kernel_rfl) (fun _ _ _ h => h) (Or.inl ⟨by rfl, fun W hW => ?_⟩) hS ?_
        rotate_left
        · obtain ⟨hw', hw''⟩ := hW; go_simp; (try go_bits); (try rw [if_pos (by omega)]); (try with_reducible rfl)
        (try simp only [Act.put, List.setIfInBounds_toArray, List.set_cons_succ, List.set_cons_zero])
        refine wpE_take (i := 1) (oi := { dst := some 51, op := Go.Op.move (Go.Operand.tmp 13), type := 3, pos := "law.go:191", after := #[], guard := none }) (v := ?_) rfl (by kernel_rfl) (fun _ _ _ h => h) (Or.inl ⟨by rfl, fun W hW => ?_⟩) hS ?_
        rotate_left
        · obtain ⟨hw', hw''⟩ := hW; go_simp; (try go_bits); (try rw [if_pos (by omega)]); (try with_reducible rfl)
        (try simp only [Act.put, List.setIfInBounds_toArray, List.set_cons_succ, List.set_cons_zero])
        refine wpE_take (i := 2) (oi := { dst := some 52, op := Go.Op.move (Go.Operand.tmp 13), type := 3, pos := "law.go:191", after := #[], guard := none }) (v := ?_) rfl (by kernel_rfl) (fun _ _ _ h => h) (Or.inl ⟨by rfl, fun W hW => ?_⟩) hS ?_
        rotate_left
        · obtain ⟨hw', hw''⟩ := hW; go_simp; (try go_bits); (try rw [if_pos (by omega)]); (try with_reducible rfl)
        (try simp only [Act.put, List.setIfInBounds_toArray, List.set_cons_succ, List.set_cons_zero])
        refine wpE_take (i := 3) (oi := { dst := some 53, op := Go.Op.binOp Go.BinOp.add 3 (Go.Operand.tmp 52) (Go.Operand.const (Go.Value.int Go.IntKind.i64 1)) 3, type := 3, pos := "law.go:191", after := #[{ on := 2, ground := Go.Ground.data }], guard := none }) (v := ?_) rfl (by kernel_rfl) (fun _ _ _ h => h) (Or.inl ⟨by rfl, fun W hW => ?_⟩) hS ?_
        rotate_left
        · obtain ⟨hw', hw''⟩ := hW; go_simp; (try go_bits); (try rw [if_pos (by omega)]); (try with_reducible rfl)
        (try simp only [Act.put, List.setIfInBounds_toArray, List.set_cons_succ, List.set_cons_zero])
        refine wpE_take (i := 4) (oi := { dst := some 54, op := Go.Op.move (Go.Operand.tmp 10), type := 3, pos := "law.go:191", after := #[], guard := none }) (v := ?_) rfl (by kernel_rfl) (fun _ _ _ h => h) (Or.inl ⟨by rfl, fun W hW => ?_⟩) hS ?_
        rotate_left
        · obtain ⟨hw', hw''⟩ := hW; go_simp; (try go_bits); (try rw [if_pos (by omega)]); (try with_reducible rfl)
        (try simp only [Act.put, List.setIfInBounds_toArray, List.set_cons_succ, List.set_cons_zero])
        refine wpE_take (i := 5) (oi := { dst := some 55, op := Go.Op.binOp Go.BinOp.rem 3 (Go.Operand.tmp 53) (Go.Operand.tmp 54) 3, type := 3, pos := "law.go:191", after := #[{ on := 3, ground := Go.Ground.data }, { on := 4, ground := Go.Ground.data }], guard := none }) (v := ?_) rfl (by kernel_rfl) (fun _ _ _ h => h) (Or.inl ⟨by rfl, fun W hW => ?_⟩) hS ?_
        rotate_left
        · obtain ⟨hw', hw''⟩ := hW; go_simp; (try go_bits); (try rw [if_pos (by omega)]); (try with_reducible rfl)
        (try simp only [Act.put, List.setIfInBounds_toArray, List.set_cons_succ, List.set_cons_zero])
        refine wpE_last (oi := { dst := some 56, op := Go.Op.call { callee := Go.Callee.value (Go.Operand.func 14), args := #[Go.Operand.tmp 50, Go.Operand.const (Go.Value.int Go.IntKind.u64 0), Go.Operand.tmp 51, Go.Operand.const (Go.Value.int Go.IntKind.u64 4096), Go.Operand.const (Go.Value.int Go.IntKind.u64 8), Go.Operand.const (Go.Value.int Go.IntKind.i64 1), Go.Operand.tmp 55], argTypes := #[26, 29, 3, 29, 29, 3, 3] }, type := 0, pos := "law.go:191", after := #[{ on := 0, ground := Go.Ground.data }, { on := 1, ground := Go.Ground.data }, { on := 5, ground := Go.Ground.data }], guard := none }) rfl (by kernel_rfl) (by kernel_rfl) (by rfl) (fun K hK => ?_)
        go_simp; refine HPu.out.mono ?_; rintro e w5 ⟨rfl, own5, hS5, hM5, hR5⟩; refine hK _ _ ?_; clear hK K
        have hLm := HI.out.1.goM hS5 hM5 hR5
        have HE := Lib.hid (And.intro hLm (And.intro (HI.out.2.1.more (by have := HK.out.1; omega) X (by have := HK.out.1; have := HX.out; omega)) (And.intro (show ∀ x, x < K → (if x = j then X else nx x) < K from fun x hx => by by_cases e : x = j <;> simp only [e, if_true, if_false] <;> first | exact HX.out | exact HI.out.2.2.1 x hx) (show num (putD 2 m (j : Int) 4096 8 1 (X : Int)) 2052 2 = 0 by rw [putD_far j (by have := HK.out.1; omega) _ _ _ _ _ _ (by decide)]; exact HI.out.2.2.2))))
        clear hS hLm hS5 hM5 hR5 HPu HI
        go_wp2
        exact ⟨⟨j + 1, by omega, by go_num, own5, _, _, HE.out.1, HE.out.2.1, HE.out.2.2.1, HE.out.2.2.2⟩, by first | exact meas_lq _ _ hlt | exact meas_lq' K j hlt HK.out.1.2⟩
      · obtain rfl : j = K := by omega
        have hji : ¬ (j : Int) < (j : Int) := by omega
        have HPu := Lib.hid (law13_Put (by decide) hL.a hL.r (A : Int) 4096 8 1 (B : Int) (by have := HK.out; omega) (by decide) (by decide) (by decide) (by have := HK.out; omega))
        have HI := Lib.hid (And.intro hL (And.intro hR (And.intro hnx hz)))
        clear hL hR hnx hz HLo hlt hj
        go_wp2_with fail
        ((with_reducible refine HPu.out.mono ?_); rintro x w5 ⟨rfl, own5, hS5, hM5, hR5⟩)
        have hA64 : A < 64 := by have := HK.out; omega
        have hLm := HI.out.1.goM hS5 hM5 hR5
        have hRd := HI.out.2.1.put A hA64 B (by have := HK.out; omega) HK.out.1.2
        have hz5 : num (putD 2 m (A : Int) 4096 8 1 (B : Int)) 2052 2 = 0 := by rw [putD_far A hA64 _ _ _ _ _ _ (by decide)]; exact HI.out.2.2.2
        have hn5 : ∀ x, x < j → (if x = A then B else nx x) < j := fun x hx => by
          by_cases e : x = A
          · rw [if_pos e]; have := HK.out; omega
          · rw [if_neg e]; exact HI.out.2.2.1 x hx
        have hnx := loop_next HK.out.1 hn5 hRd hz5
        obtain ⟨m5, hm5⟩ : ∃ f, putD 2 m (A : Int) 4096 8 1 (B : Int) = f := ⟨_, rfl⟩
        rw [hm5] at hLm hnx
        clear x0 x1
        obtain ⟨x0, x1⟩ := hLm.cells
        have HW := Lib.hid (two_Write (by decide) hLm.a hLm.r 2050 2 1 (by decide) (by decide) (by decide) (by decide) (by decide) (by decide))
        have H5 := Lib.hid (And.intro hLm hnx)
        clear hLm hRd hz5 hn5 hnx hm5 hS5 hM5 hR5 HI HPu hA64
        go_wp2_with fail
        ((with_reducible refine HW.out.mono ?_); rintro x w6 ⟨rfl, own6, hS6, hM6, hR6⟩)
        have hL6 := H5.out.1.goM hS6 hM6 hR6
        have hok6 := quOkL j false 0 HK.out.1 (by decide)
        have hNx := q_Next hL6.q hL6.a (by decide) hok6 4 (by decide)
        rw [H5.out.2] at hNx
        unfold memV at hNx
        have HNx := Lib.hid hNx
        obtain ⟨M, hMM⟩ : ∃ f, wrR 0 2 m5 2050 2 1 = f := ⟨_, rfl⟩
        rw [hMM] at hL6
        clear x0 x1
        obtain ⟨x0, x1⟩ := hL6.cells
        have H6 := Lib.hid hL6
        clear hL6 hok6 hNx hMM hS6 hM6 hR6 H5 HW
        go_wp2_with fail
        ((with_reducible refine HNx.out.mono ?_); rintro x w7 ⟨own7, vR, vW, rfl, hS7, hQ7, hRr, hRw⟩)
        have hL7 := H6.out.goQ hS7 hQ7
        obtain ⟨AR, cR, rfl, _, _⟩ := hRr.form
        obtain ⟨AW, cW, rfl, _, _⟩ := hRw.form
        clear x0 x1
        have W8 : Step (fun _ => False) own7 w7 (ext own7 w7 9) (w7.alloc (.cells #[.int .i64 0, .slice AR 0 cR, .slice AW 0 cW] 40)) := ⟨(Upd.refl _ _).alloc _, fun b hb => ext_old _ _ _ hb⟩
        obtain ⟨x0, x1⟩ := hL7.cells
        have hlx := hL7.bx.1.lt
        have hL8 := hL7.none_ W8
        have HDd := Lib.hid (q_Dead hL8.q)
        have hok7 := quOkL j true 1 HK.out.1 (by decide)
        have hN2 := q_Next hL8.q hL8.a (by decide) hok7 4 (by decide)
        rw [dead_next] at hN2
        unfold memV at hN2
        have HN2 := Lib.hid hN2
        have H8 := Lib.hid (And.intro hL8 hok7)
        clear hL7 hL8 W8 hok7 hN2 hS7 hQ7 hRr hRw H6 HNx
        go_wp2_with (first | ((with_reducible show wpList _ _ _ ((⟨some 14, _, _, _, _, _⟩ : Oper) :: _) _ _); refine wpList_alloc rfl _ rfl (allocCh _) ?_) | (go_at_call 20; (with_reducible refine HDd.out.mono ?_); rintro x w8 ⟨rfl, rfl⟩))
        ((with_reducible refine HN2.out.mono ?_); rintro x w9 ⟨own9, vR2, vW2, rfl, hS9, hQ9, _, _⟩)
        have hL9 := H8.out.1.goQ hS9 hQ9
        clear x0 x1 hlx
        obtain ⟨x0, x1⟩ := hL9.cells
        have hPs := q_Push hL9.q hL9.a (by decide) H8.out.2 0 1 (by decide) (by decide) (by decide) (by decide)
        rw [dead_push] at hPs
        unfold memV at hPs
        have HPs := Lib.hid hPs
        have H9 := Lib.hid hL9
        clear hL9 hPs hS9 hQ9 HN2 HDd H8
        go_wp2_with fail
        ((with_reducible refine HPs.out.mono ?_); rintro x w10 ⟨rfl, own10, hS10, hQ10, hM10⟩)
        have hL10 := H9.out.goP hS10 hQ10 hM10
        clear x0 x1
        obtain ⟨x0, x1⟩ := hL10.cells
        have HSm := Lib.hid (two_Same hL10.a hL10.r)
        have H10 := Lib.hid hL10
        clear hL10 hS10 hQ10 hM10 H9 HPs
        go_wp2_with fail
        ((with_reducible refine HSm.out.mono ?_); rintro x w11 ⟨rfl, own11, hS11⟩)
        have hL11 := H10.out.none_ hS11
        have HRs := Lib.hid (q_Reset hL11.q)
        have H11 := Lib.hid hL11
        clear x0 x1 hL11 hS11 H10 HSm
        go_wp2_with fail
        ((with_reducible refine HRs.out.mono ?_); rintro x w12 ⟨rfl, hS12, hQ12⟩)
        have hL12 := H11.out.goQ hS12 hQ12
        have HDd := Lib.hid (q_Dead hL12.q)
        have HRy := Lib.hid (q_Ready hL12.q)
        obtain ⟨e1, e2⟩ := okSetK j HK.out.2.2.2
        have hSe := q_Setup hL12.q (j : Int) 256 2048 2304 (by have := HK.out.1; omega) (by decide) (by decide) (by decide)
        rw [e1, e2, show ((256 : Nat) : Int) = 256 from rfl, show ((2048 : Nat) : Int) = 2048 from rfl, show ((2304 : Nat) : Int) = 2304 from rfl] at hSe
        have HSe := Lib.hid hSe
        have H12 := Lib.hid hL12
        clear hL12 hSe e1 e2 hS12 hQ12 H11 HRs
        go_wp2_with fail
        ((with_reducible refine HDd.out.mono ?_); rintro x wz ⟨rfl, rfl⟩)
        go_wp2_with fail
        ((with_reducible refine HRy.out.mono ?_); rintro x wz ⟨rfl, rfl⟩)
        go_wp2_with fail
        ((with_reducible refine HSe.out.mono ?_); rintro x w13 ⟨rfl, hS13, hQ13⟩)
        have HU := Lib.hid (H12.out.goQ hS13 hQ13).upd
        clear hS13 hQ13 H12 HSe HDd HRy
        go_wp2_with (go_at_call 19; (with_reducible refine (awake13 _).mono ?_); rintro e w14 ⟨rfl, hU14⟩)
        go_ret
        exact ⟨rfl, HU.out.trans hU14⟩
end Go.Proofs.Ytjhibbhinbdciaa
