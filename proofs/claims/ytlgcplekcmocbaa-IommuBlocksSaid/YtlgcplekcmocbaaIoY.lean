import Derived.Test.YtlgcplekcmocbaaIoW
import Derived.Test.YtlgcplekcmocbaaIo8
/- IommuBlocks: the walk. -/
namespace Go.Proofs.Ytlgcplekcmocbaa
set_option linter.unusedVariables false
set_option linter.unusedSimpArgs false
open Go.RowKit
set_option maxRecDepth 100000

theorem OpsAt.c3 {w : World} {g o cap : Nat} {L : List OpR} (h : OpsAt w (.slice (some ⟨g, o, none⟩) L.length cap) L) {k : Nat} {x : OpR} (hx : L[k]? = some x) : w.cell? ⟨g, o + k * 8 + 3, none⟩ = some (.int .u64 (x.a : Int)) := by
  obtain ⟨g', o', he, _, _, _, _, e3, _⟩ := h.cells hx
  cases he
  exact e3
theorem QS.over {n : Nat} {s : Us} {m : Nat → Int} {L : List (Nat × Nat × Nat)} {ov : Bool} (h : QS n s m L ov) : s.ov = ov := h.ovf
set_option maxHeartbeats 8000000 in
theorem blocks_calls (w : World) (v : Value) (cs : List (Int × Nat)) (hv : CellsAt w v cs) (hlen : cs.length ≤ 9223372036854775807) (hb : ∀ x ∈ cs, -9223372036854775808 ≤ x.1 ∧ x.1 ≤ 9223372036854775807 ∧ x.2 < 18446744073709551616)
    (A : Option Addr) (cap : Nat) (L : List OpR) (hL : OpsAt w (.slice A L.length cap) L) (hLb : ∀ o ∈ L, OpB o) (hLl : L.length ≤ 9223372036854775807) (dev : Int) (hd0 : i64B dev) (ring : Bool) :
    Calls Try.prog 9 #[v, .slice A L.length cap, .int .i64 dev, .bool ring] w fun e w' => e = .returned (.bool true) ∧ Upd (fun _ => False) w w' := by
  obtain ⟨d, hd⟩ : ∃ d : Nat, dev % 8 = (d : Int) := ⟨(dev % 8).toNat, by omega⟩
  have hd8 : d < 8 := by omega
  have P1 := fun w => place_calls dev 8 w hd0.1 hd0.2 (by decide) (by decide)
  rw [hd] at P1
  have HP1 := Lib.hid P1
  obtain ⟨M0, hM0⟩ : ∃ M0, cellsM 8 (fun _ => 0) cs = M0 := ⟨_, rfl⟩
  have hN := law07_NewC 0 (fun _ => 0) 8 (by decide) w v cs hv hlen hb
  rw [hM0, show ((8 : Nat) : Int) = 8 from rfl] at hN
  have HN := Lib.hid hN
  obtain ⟨A0, cap0, rfl, _⟩ := hv
  have HL := Lib.hid (And.intro hL hLb)
  clear P1 hd hd0 hN hlen hb hL hLb hM0
  go_enter Try.func9, Try.ntmps9
  go_wp2_with fail
  ((with_reducible refine HN.out.mono ?_); rintro e w1 ⟨p, q, rp, tp, p2, t2, own1, rfl, hS1, hO1⟩)
  have hS2 : Step (fun _ => False) own1 w1 (ext own1 w1 50) (w1.alloc (.cells #[.pointer (some ⟨p, 0, none⟩), .pointer (some ⟨q, 0, none⟩), .pointer (some ⟨rp, 0, none⟩), .pointer (some ⟨p2, 0, none⟩)] 31)) := ⟨(Upd.refl _ _).alloc _, fun b hb => ext_old _ _ _ hb⟩
  have hO2 := hO1.step hS2 (fun x h => h.elim)
  have hB1 : S2 w (ext own1 w1 50) (w1.alloc (.cells #[.pointer (some ⟨p, 0, none⟩), .pointer (some ⟨q, 0, none⟩), .pointer (some ⟨rp, 0, none⟩), .pointer (some ⟨p2, 0, none⟩)] 31)) p q rp tp p2 w1.heap.size 8 us0 M0 M0 [] :=
    ⟨⟨(hS1.trans hS2).mono (fun _ h => h.elim), Sd.of_on hO2, Blk.new w1 _ _, ext_new _ _ _ (Nat.le_refl _)⟩, hO2.mr⟩
  obtain ⟨x0, x2, x3, xl⟩ := hB1.cells
  have H1 := Lib.hid (show ∃ own' s, S2 w own' (w1.alloc (.cells #[.pointer (some ⟨p, 0, none⟩), .pointer (some ⟨q, 0, none⟩), .pointer (some ⟨rp, 0, none⟩), .pointer (some ⟨p2, 0, none⟩)] 31)) p q rp tp p2 w1.heap.size 8 s M0 M0 [] ∧ s.rt d = 0 ∧ s.rd = false ∧ s.ov = false from ⟨_, us0, hB1, rfl, rfl, rfl⟩)
  clear hS1 hO1 hS2 hO2 hB1 HN
  go_wp2_with fail
  generalize w1.heap.size = xo at *
  ((with_reducible refine (HP1.out _).mono ?_); rintro e wz ⟨rfl, rfl⟩)
  clear HP1
  go_wp2
  go_loopw [12] (fun i wr => ∃ (j : Nat), j ≤ L.length ∧ i = .int .i64 (j : Int) ∧ Hid (∃ own' s, S2 w own' wr p q rp tp p2 xo 8 s M0 M0 [] ∧ s.rt d = 0 ∧ s.rd = false ∧ s.ov = false)) (fun i _ => L.length - (intOf i).toNat)
  case atStart => exact ⟨0, by omega, rfl, H1.out⟩
  case round =>
    rename World => wa
    obtain ⟨j, hj, rfl, HLo⟩ := hrel
    clear H1 x0 x2 x3 xl
    obtain ⟨own2, s, hB, hrt, hrd, hov⟩ := HLo.out
    obtain ⟨x0, x2, x3, xl⟩ := hB.cells
    by_cases hlt : j < L.length
    · have hlt' : (j : Int) < (L.length : Int) := by omega
      have hget : L[j]? = some L[j] := List.getElem?_eq_getElem hlt
      have hob := HL.out.2 _ (List.getElem_mem hlt)
      obtain ⟨g, o, rfl, hg, c0, c1, c2, c3, c4, c5, c6, c7⟩ := (HL.out.1.upd hB.upd).cells hget
      generalize L[j] = x at *
      obtain ⟨xk, xd, xs, xa, xv, xw, xg, xq⟩ := x
      simp only [] at c0 c1 c3
      by_cases hxd : xd = (d : Int)
      · have hxd2 : (xd == (d : Int)) = true := by simp [hxd]
        have hxd3 : (xd != (d : Int)) = false := by simp [hxd]
        have HB := Lib.hid (show ∃ own' s, S2 w own' wa p q rp tp p2 xo 8 s M0 M0 [] ∧ s.rt d = 0 ∧ s.rd = false ∧ s.ov = false from ⟨own2, s, hB, hrt, hrd, hov⟩)
        clear hB hrt hrd hov hget hob c2 c4 c5 c6 c7 hg HLo
        go_wp2
        exact ⟨⟨j + 1, by omega, by go_num, HB.out⟩, by simp [intOf]; omega⟩
      · have hxd2 : (xd == (d : Int)) = false := by simpa using hxd
        have hxd3 : (xd != (d : Int)) = true := by simpa using hxd
        by_cases hxk : xk = 10
        · subst hxk
          have HB := Lib.hid (show ∃ own' s, S2 w own' wa p q rp tp p2 xo 8 s M0 M0 [] ∧ s.rt d = 0 ∧ s.rd = false ∧ s.ov = false from ⟨own2, s, hB, hrt, hrd, hov⟩)
          clear hB hrt hrd hov hget hob c2 c4 c5 c6 c7 hg HLo
          go_wp2
          exact ⟨⟨j + 1, by omega, by go_num, HB.out⟩, by simp [intOf]; omega⟩
        · have hxk2 : (xk == 10) = false := by simpa using hxk
          have hxk3 : (xk != 10) = true := by simpa using hxk
          have HA := Lib.hid (hB.drew.a.a.set_any xd xa hob.a d hxd)
          have HB := Lib.hid (And.intro hB.drew (And.intro hrt (And.intro hrd hov)))
          clear hB hrt hrd hov hget hob c2 c4 c5 c6 c7 hg HLo
          go_wp2_with fail
          refine wpE_region (S := fun (W' : World) => W'.cell? ⟨xo, 0, none⟩ = some (.pointer (some ⟨p, 0, none⟩)) ∧ W'.cell? ⟨g, o + j * 8 + 1, none⟩ = some (.int .i64 xd) ∧ W'.cell? ⟨g, o + j * 8 + 3, none⟩ = some (.int .u64 (xa : Int))) (s := 12) (by kernel_rfl) ?_
          have hS : (fun (W' : World) => W'.cell? ⟨xo, 0, none⟩ = some (.pointer (some ⟨p, 0, none⟩)) ∧ W'.cell? ⟨g, o + j * 8 + 1, none⟩ = some (.int .i64 xd) ∧ W'.cell? ⟨g, o + j * 8 + 3, none⟩ = some (.int .u64 (xa : Int))) _ := ⟨x0, c1, c3⟩
          refine wpE_take (i := 0) (oi := { dst := some 63, op := Go.Op.fieldAddr 31 (Go.Operand.tmp 9) 0, type := 0, pos := "law.go:111", after := #[], guard := none }) (v := ?_) rfl (by kernel_rfl) (fun _ _ _ h => h) (Or.inl ⟨by rfl, fun W hW => ?_⟩) hS ?_
          rotate_left
          · obtain ⟨hw1, hw2, hw3⟩ := hW; go_simp; (try go_bits); (try rw [if_pos (by omega)]); (try with_reducible rfl)
          (try simp only [Act.put, List.setIfInBounds_toArray, List.set_cons_succ, List.set_cons_zero])
          refine wpE_take (i := 1) (oi := { dst := some 64, op := Go.Op.load 24 (Go.Operand.tmp 63), type := 24, pos := "law.go:111", after := #[{ on := 0, ground := Go.Ground.data }], guard := none }) (v := ?_) rfl (by kernel_rfl) (fun _ _ _ h => h) (Or.inl ⟨by rfl, fun W hW => ?_⟩) hS ?_
          rotate_left
          · obtain ⟨hw1, hw2, hw3⟩ := hW; go_simp; (try go_bits); (try rw [if_pos (by omega)]); (try with_reducible rfl)
          (try simp only [Act.put, List.setIfInBounds_toArray, List.set_cons_succ, List.set_cons_zero])
          refine wpE_take (i := 2) (oi := { dst := some 65, op := Go.Op.move (Go.Operand.tmp 1), type := 49, pos := "law.go:111", after := #[], guard := none }) (v := ?_) rfl (by kernel_rfl) (fun _ _ _ h => h) (Or.inl ⟨by rfl, fun W hW => ?_⟩) hS ?_
          rotate_left
          · obtain ⟨hw1, hw2, hw3⟩ := hW; go_simp; (try go_bits); (try rw [if_pos (by omega)]); (try with_reducible rfl)
          (try simp only [Act.put, List.setIfInBounds_toArray, List.set_cons_succ, List.set_cons_zero])
          refine wpE_take (i := 3) (oi := { dst := some 66, op := Go.Op.move (Go.Operand.tmp 12), type := 3, pos := "law.go:111", after := #[], guard := none }) (v := ?_) rfl (by kernel_rfl) (fun _ _ _ h => h) (Or.inl ⟨by rfl, fun W hW => ?_⟩) hS ?_
          rotate_left
          · obtain ⟨hw1, hw2, hw3⟩ := hW; go_simp; (try go_bits); (try rw [if_pos (by omega)]); (try with_reducible rfl)
          (try simp only [Act.put, List.setIfInBounds_toArray, List.set_cons_succ, List.set_cons_zero])
          refine wpE_take (i := 4) (oi := { dst := some 67, op := Go.Op.indexAddr 49 (Go.Operand.tmp 65) (Go.Operand.tmp 66), type := 0, pos := "law.go:111", after := #[{ on := 2, ground := Go.Ground.data }, { on := 3, ground := Go.Ground.data }], guard := none }) (v := ?_) rfl (by kernel_rfl) (fun _ _ _ h => h) (Or.inl ⟨by rfl, fun W hW => ?_⟩) hS ?_
          rotate_left
          · obtain ⟨hw1, hw2, hw3⟩ := hW; go_simp; (try go_bits); (try rw [if_pos (by omega)]); (try with_reducible rfl)
          (try simp only [Act.put, List.setIfInBounds_toArray, List.set_cons_succ, List.set_cons_zero])
          refine wpE_take (i := 5) (oi := { dst := some 68, op := Go.Op.fieldAddr 54 (Go.Operand.tmp 67) 1, type := 0, pos := "law.go:111", after := #[{ on := 4, ground := Go.Ground.data }], guard := none }) (v := ?_) rfl (by kernel_rfl) (fun _ _ _ h => h) (Or.inl ⟨by rfl, fun W hW => ?_⟩) hS ?_
          rotate_left
          · obtain ⟨hw1, hw2, hw3⟩ := hW; go_simp; (try go_bits); (try rw [if_pos (by omega)]); (try with_reducible rfl)
          (try simp only [Act.put, List.setIfInBounds_toArray, List.set_cons_succ, List.set_cons_zero])
          refine wpE_take (i := 6) (oi := { dst := some 69, op := Go.Op.load 3 (Go.Operand.tmp 68), type := 3, pos := "law.go:111", after := #[{ on := 5, ground := Go.Ground.data }], guard := none }) (v := ?_) rfl (by kernel_rfl) (fun _ _ _ h => h) (Or.inl ⟨by rfl, fun W hW => ?_⟩) hS ?_
          rotate_left
          · obtain ⟨hw1, hw2, hw3⟩ := hW; go_simp; (try go_bits); (try rw [if_pos (by omega)]); (try with_reducible rfl)
          (try simp only [Act.put, List.setIfInBounds_toArray, List.set_cons_succ, List.set_cons_zero])
          refine wpE_take (i := 7) (oi := { dst := some 70, op := Go.Op.move (Go.Operand.tmp 1), type := 49, pos := "law.go:111", after := #[], guard := none }) (v := ?_) rfl (by kernel_rfl) (fun _ _ _ h => h) (Or.inl ⟨by rfl, fun W hW => ?_⟩) hS ?_
          rotate_left
          · obtain ⟨hw1, hw2, hw3⟩ := hW; go_simp; (try go_bits); (try rw [if_pos (by omega)]); (try with_reducible rfl)
          (try simp only [Act.put, List.setIfInBounds_toArray, List.set_cons_succ, List.set_cons_zero])
          refine wpE_take (i := 8) (oi := { dst := some 71, op := Go.Op.move (Go.Operand.tmp 12), type := 3, pos := "law.go:111", after := #[], guard := none }) (v := ?_) rfl (by kernel_rfl) (fun _ _ _ h => h) (Or.inl ⟨by rfl, fun W hW => ?_⟩) hS ?_
          rotate_left
          · obtain ⟨hw1, hw2, hw3⟩ := hW; go_simp; (try go_bits); (try rw [if_pos (by omega)]); (try with_reducible rfl)
          (try simp only [Act.put, List.setIfInBounds_toArray, List.set_cons_succ, List.set_cons_zero])
          refine wpE_take (i := 9) (oi := { dst := some 72, op := Go.Op.indexAddr 49 (Go.Operand.tmp 70) (Go.Operand.tmp 71), type := 0, pos := "law.go:111", after := #[{ on := 7, ground := Go.Ground.data }, { on := 8, ground := Go.Ground.data }], guard := none }) (v := ?_) rfl (by kernel_rfl) (fun _ _ _ h => h) (Or.inl ⟨by rfl, fun W hW => ?_⟩) hS ?_
          rotate_left
          · obtain ⟨hw1, hw2, hw3⟩ := hW; go_simp; (try go_bits); (try rw [if_pos (by omega)]); (try with_reducible rfl)
          (try simp only [Act.put, List.setIfInBounds_toArray, List.set_cons_succ, List.set_cons_zero])
          refine wpE_take (i := 10) (oi := { dst := some 73, op := Go.Op.fieldAddr 54 (Go.Operand.tmp 72) 3, type := 0, pos := "law.go:111", after := #[{ on := 9, ground := Go.Ground.data }], guard := none }) (v := ?_) rfl (by kernel_rfl) (fun _ _ _ h => h) (Or.inl ⟨by rfl, fun W hW => ?_⟩) hS ?_
          rotate_left
          · obtain ⟨hw1, hw2, hw3⟩ := hW; go_simp; (try go_bits); (try rw [if_pos (by omega)]); (try with_reducible rfl)
          (try simp only [Act.put, List.setIfInBounds_toArray, List.set_cons_succ, List.set_cons_zero])
          refine wpE_take (i := 11) (oi := { dst := some 74, op := Go.Op.load 22 (Go.Operand.tmp 73), type := 22, pos := "law.go:111", after := #[{ on := 10, ground := Go.Ground.data }], guard := none }) (v := ?_) rfl (by kernel_rfl) (fun _ _ _ h => h) (Or.inl ⟨by rfl, fun W hW => ?_⟩) hS ?_
          rotate_left
          · obtain ⟨hw1, hw2, hw3⟩ := hW; go_simp; (try go_bits); (try rw [if_pos (by omega)]); (try with_reducible rfl)
          (try simp only [Act.put, List.setIfInBounds_toArray, List.set_cons_succ, List.set_cons_zero])
          refine wpE_last (oi := { dst := some 75, op := Go.Op.call { callee := Go.Callee.value (Go.Operand.func 18), args := #[Go.Operand.tmp 64, Go.Operand.tmp 69, Go.Operand.tmp 74], argTypes := #[24, 3, 22] }, type := 35, pos := "law.go:111", after := #[{ on := 1, ground := Go.Ground.data }, { on := 6, ground := Go.Ground.data }, { on := 11, ground := Go.Ground.data }], guard := none }) rfl (by kernel_rfl) (by kernel_rfl) (by rfl) (fun K hK => ?_)
          go_simp; refine HA.out.mono ?_; rintro e w7 ⟨z, own7, s7, rfl, hS7, hA7, h7a, h7b, h7c⟩
          have H7 := Lib.hid (And.intro (HB.out.1.step hS7 hA7) (And.intro (h7a.trans HB.out.2.1) (And.intro (h7b.trans HB.out.2.2.1) (h7c.trans HB.out.2.2.2))))
          clear HA HB hS7 hA7 h7a h7b h7c
          refine hK _ _ ?_; clear hK K
          go_wp2
          exact ⟨⟨j + 1, by omega, by go_num, own7, s7, H7.out⟩, by simp [intOf]; omega⟩
    · obtain rfl : j = L.length := by omega
      have HB := Lib.hid (And.intro hB (And.intro hrt (And.intro hrd hov)))
      clear hB hrt hrd hov HLo
      go_upto_region 10 with fail
      go_cut [82] (fun s82 wx => s82 = .bool false ∧ Hid (∃ own' s l, BI d L ring w own' wx p q rp tp p2 xo s M0 M0 l 0))
      case first =>
        cases ring
        · go_wp2
          go_meet
          exact ⟨rfl, _, _, _, HB.out.1, HB.out.2.1, fun _ _ => rfl, fun h => (by cases h), fun _ => ⟨HB.out.2.2.1, HB.out.2.2.2⟩⟩
        · have hA := HB.out.1.a.a.ring 28672 (by decide) (by decide)
          rw [show ((28672 : Nat) : Int) = 28672 from rfl] at hA
          have HA := Lib.hid hA
          clear hA
          go_wp2_with fail
          ((with_reducible refine HA.out.mono ?_); rintro e w5 ⟨rfl, own5, hS5, hA5⟩)
          have hB5 := HB.out.1.step hS5 hA5
          have hq := QS.new (n := 8) (s := s) M0 HB.out.1.a.a.ok 28672 (by decide) (by decide) (by decide) false HB.out.2.2.2
          have HX := Lib.hid (show BI d L true w own5 w5 p q rp tp p2 xo (usRg s 28672) M0 M0 [] 0 from ⟨hB5, HB.out.2.1, fun _ _ => rfl, fun _ => ⟨hq, rfl⟩, fun h => by cases h⟩)
          clear hS5 hA5 hB5 hq HA
          go_wp2
          go_meet
          exact ⟨rfl, _, _, _, HX.out⟩
      case rest =>
        rename World => wb
        obtain ⟨rfl, HC⟩ := hcut
        clear HB x0 x2 x3 xl hlt
        go_wp2
        go_loopw [13, 14] (fun told i wr => ∃ (j : Nat), j ≤ L.length ∧ told = .int .i64 ((min j 255 : Nat) : Int) ∧ i = .int .i64 (j : Int) ∧ Hid (∃ own' s m l, BI d L ring w own' wr p q rp tp p2 xo s m M0 l j)) (fun _ i _ => L.length - (intOf i).toNat)
        case atStart => exact ⟨0, by omega, rfl, rfl, by obtain ⟨a, b, c, h⟩ := HC.out; exact ⟨a, b, M0, c, h⟩⟩
        case round =>
          rename World => wr
          obtain ⟨j, hj, rfl, rfl, HLo⟩ := hrel
          clear HC
          obtain ⟨own3, s3, m3, l3, hB⟩ := HLo.out
          obtain ⟨x0, x2, x3, xl⟩ := hB.a.cells
          obtain ⟨T, hT⟩ : ∃ T, min j 255 = T := ⟨_, rfl⟩
          rw [hT]
          by_cases hlt : j < L.length
          · have hlt' : (j : Int) < (L.length : Int) := by omega
            have hget : L[j]? = some L[j] := List.getElem?_eq_getElem hlt
            have hob := HL.out.2 _ (List.getElem_mem hlt)
            obtain ⟨g, o, rfl, hg, c0, c1, c2, c3, c4, c5, c6, c7⟩ := (HL.out.1.upd hB.a.upd).cells hget
            generalize L[j] = x at *
            obtain ⟨xk, xd, xs, xa, xv, xw, xg, xq⟩ := x
            simp only [] at c0 c1 c2 c3 c4 c5 c6 c7
            have hB1 : BI d L ring w (ext own3 wr 50) (wr.alloc (.cells #[.int .i64 xk, .int .i64 xd, .int .i64 xs, .int .u64 (xa : Int), .int .u64 (xv : Int), .bool xw, .int .i64 xg, .int .i64 xq] 54)) p q rp tp p2 xo s3 m3 M0 l3 j := { hB with a := hB.a.alloc _ }
            have HA := Lib.hid (hB1.acc hd8 hget hob)
            clear hB hB1 hget hob hg HLo
            go_wp2_with fail
            ((with_reducible refine HA.out.mono ?_); rintro e w5 ⟨rfl, h5⟩)
            have H5 := Lib.hid h5
            clear HA h5 c0 c1 c2 c3 c4 c5 c6 c7
            by_cases hj5 : j < 255
            · have hc : decide ((T : Int) < 255) = true := by simp; omega
              go_wp2
              exact ⟨⟨j + 1, by omega, by congr 1; omega, by go_num, H5.out⟩, by simp [intOf]; omega⟩
            · have hc : decide ((T : Int) < 255) = false := by simp; omega
              go_wp2
              exact ⟨⟨j + 1, by omega, by congr 1; omega, by go_num, H5.out⟩, by simp [intOf]; omega⟩
          · obtain rfl : j = L.length := by omega
            have HB := Lib.hid (show ∃ own' s m l, BI d L ring w own' wr p q rp tp p2 xo s m M0 l L.length from ⟨_, _, _, _, hB⟩)
            clear hB HLo
            clear x0 x2 x3 xl hlt
            go_wp2
            go_loopw [18] (fun i wr2 => ∃ (f : Nat), f ≤ 7 ∧ i = .int .i64 (f : Int) ∧ Hid (∃ own' s m l, BI d L ring w own' wr2 p q rp tp p2 xo s m M0 l L.length)) (fun i _ => 7 - (intOf i).toNat)
            case atStart => exact ⟨0, by omega, rfl, HB.out⟩
            case round =>
              rename World => wc
              obtain ⟨f, hf, rfl, HLo⟩ := hrel
              clear HB
              obtain ⟨own4, s4, m4, l4, hB⟩ := HLo.out
              obtain ⟨x0, x2, x3, xl⟩ := hB.a.cells
              by_cases hlt : f < 7
              · have hlt' : decide ((f : Int) < 7) = true := by simp; omega
                have hBy := ram_Bytes' hB.a.a.a.mm (f * 4096) 4096 50 (by omega) (by decide) ((f : Int) * 4096) (by omega)
                rw [show ((4096 : Nat) : Int) = 4096 from rfl] at hBy
                have HBy := Lib.hid hBy
                have HB := Lib.hid hB
                clear hB hBy HLo
                go_wp2_with fail
                ((with_reducible refine HBy.out.mono ?_); rintro e w5 ⟨b5, own5, rfl, hS5, ho5, hA5⟩)
                have hB5 := HB.out.a.none_ hS5
                have hPg := mref_Page hB5.mr f (by omega) 50 (by decide)
                obtain ⟨x0, x2, x3, xl⟩ := hB5.cells
                have HPg := Lib.hid hPg
                have H5 := Lib.hid (And.intro hB5 (And.intro ho5 hA5))
                clear hS5 ho5 hA5 hB5 hPg HBy
                go_wp2_with fail
                ((with_reducible refine HPg.out.mono ?_); rintro e w6 ⟨v6, own6, rfl, hS6, hR6⟩)
                have hB6 := H5.out.1.none_ hS6
                obtain ⟨cc, hBk, hcs, hcc⟩ := H5.out.2.2
                obtain ⟨k1, _⟩ := hS6.blk hBk H5.out.2.1 (fun h => h)
                obtain ⟨A6, cap6, rfl, _, hf6⟩ := hR6.form
                obtain ⟨g6, o6, rfl, _, _, _, hc6⟩ := hf6 (by decide)
                have hSB := law_SameBytes2 (w := w6) (a := b5) (b := g6) (oa := 0) (ob := o6) (n := 4096) (ca := 4096) (cb := cap6) (f := fun k => M0 (f * 4096 + k)) (by decide)
                  (fun k hk => by rw [Nat.zero_add, k1.cell, hcc k hk, HB.out.mem _ (by omega)]) (fun k hk => hc6 k _ (bytesL_at M0 _ _ k hk))
                have HSB := Lib.hid hSB
                obtain ⟨x0, x2, x3, xl⟩ := hB6.cells
                have H6 := Lib.hid (show ∃ own' s m l, BI d L ring w own' w6 p q rp tp p2 xo s m M0 l L.length from ⟨_, _, _, _, { HB.out with a := hB6 }⟩)
                clear hS6 hR6 hB6 hBk hcs hcc k1 hf6 hc6 hSB HPg H5 HB
                go_wp2_with fail
                ((with_reducible refine HSB.out.mono ?_); rintro e w7 ⟨rfl, qk, rfl⟩)
                have H7 := Lib.hid (show ∃ own' s m l, BI d L ring w own' (w6.drewN qk) p q rp tp p2 xo s m M0 l L.length from by
                  obtain ⟨a1, a2, a3, a4, h⟩ := H6.out
                  exact ⟨a1, a2, a3, a4, { h with a := h.a.none_ ((Step.refl _ _ _).drewN qk) }⟩)
                clear HSB H6
                go_wp2
                exact ⟨⟨f + 1, by omega, by go_num, H7.out⟩, by simp [intOf]; omega⟩
              · obtain rfl : f = 7 := by omega
                rw [show ((7 : Nat) : Int) = 7 from rfl]
                clear HLo
                cases hring : ring with
                | false =>
                  subst hring
                  obtain ⟨hrd, hov⟩ := hB.no rfl
                  have hX := hB.a.a.a.none_ (by unfold nextOk; rw [hrd]; rfl)
                  have hovd : decide (0 < L.length) = s4.ov := hov.symm
                  have HX := Lib.hid hX
                  have HB := Lib.hid hB
                  have hovd2 : decide ((0 : Int) < (L.length : Int)) = s4.ov := by rw [← hovd]; congr 1; simp
                  clear hB hX hrd hov HL
                  go_wp2_with fail
                  ((with_reducible refine HX.out.mono ?_); rintro e w8 ⟨rfl, own8, hS8, hA8⟩)
                  have hB8 := HB.out.a.step hS8 hA8
                  have hB9 := hB8.alloc (.cells #[.int .i64 0, .int .i64 0, .int .u64 0] 43)
                  have HO := Lib.hid (io_Overflow hB9.a.a.u)
                  obtain ⟨x0, x2, x3, xl⟩ := hB8.cells
                  have H9 := Lib.hid hB9.upd
                  generalize s4.ov = ov at *
                  clear hS8 hA8 hB8 hB9 HX HB
                  go_wp2_with fail
                  ((with_reducible refine HO.out.mono ?_); rintro e wz ⟨rfl, rfl⟩)
                  clear HO
                  rcases ov with _ | _
                  all_goals
                    go_wp2_with fail
                    ((with_reducible refine (awake07 _).mono ?_); rintro e w13 ⟨rfl, hU13⟩)
                    have HE := Lib.hid (H9.out.trans' hU13 (fun _ _ e => e))
                    clear hU13 H9
                    go_wp2
                    go_ret
                    exact ⟨rfl, HE.out⟩
                | true =>
                  subst hring
                  obtain ⟨hq, _⟩ := hB.yes rfl
                  rw [hT] at hq
                  have hTl : T ≤ L.length := by omega
                  have HB := Lib.hid (show ∃ own' s m l, S2 w own' wc p q rp tp p2 xo 8 s m M0 l ∧ QS 8 s m (((recL d L).take T).drop 0) (decide (255 < L.length)) from ⟨_, _, _, _, hB.a, hq⟩)
                  clear hB hq x0 x2 x3 xl
                  go_wp2
                  go_loopw [23] (fun i wr2 => ∃ (k : Nat), k ≤ T ∧ i = .int .i64 (k : Int) ∧ Hid (∃ own' s m l, S2 w own' wr2 p q rp tp p2 xo 8 s m M0 l ∧ QS 8 s m (((recL d L).take T).drop k) (decide (255 < L.length)))) (fun i _ => T - (intOf i).toNat)
                  case atStart => exact ⟨0, by omega, rfl, HB.out⟩
                  case round =>
                    rename World => we
                    obtain ⟨k, hk, rfl, HLo⟩ := hrel
                    clear HB
                    obtain ⟨own8, s8, m8, l8, hB, hQ⟩ := HLo.out
                    obtain ⟨x0, x2, x3, xl⟩ := hB.cells
                    by_cases hlt : k < T
                    · have hlt' : (k : Int) < (T : Int) := by omega
                      have hget : L[k]? = some L[k] := List.getElem?_eq_getElem (by omega)
                      have hlk : (k : Int) < (L.length : Int) := by omega
                      obtain ⟨g, o, rfl, hg, c0, c1, c2, c3, c4, c5, c6, c7⟩ := (HL.out.1.upd hB.upd).cells hget
                      generalize L[k] = x at *
                      have hdr : ((recL d L).take T).drop k = (d, kindN x.s x.a, x.a) :: ((recL d L).take T).drop (k + 1) := by
                        have hl : k < ((recL d L).take T).length := by rw [List.length_take, recL_len]; omega
                        rw [List.drop_eq_getElem_cons hl]
                        congr 1
                        have h1 : ((recL d L).take T)[k]? = some (d, kindN x.s x.a, x.a) := by rw [List.getElem?_take, if_pos hlt, recL_at hget]
                        rw [List.getElem?_eq_getElem hl] at h1
                        exact Option.some.inj h1
                      rw [hdr] at hQ
                      have hX := hB.a.a.next hQ
                      obtain ⟨xk, xd, xs, xa, xv, xw, xg, xq⟩ := x
                      simp only [] at hX
                      have hkc := kindN_cases xs xa
                      generalize kindN xs xa = KD at *
                      have HX := Lib.hid hX
                      have HB := Lib.hid (And.intro hB hget)
                      clear hB hQ hX hdr hget hg c0 c1 c2 c3 c4 c5 c6 c7 HLo
                      go_wp2_with fail
                      ((with_reducible refine HX.out.mono ?_); rintro e w9 ⟨rfl, own9, s9, hS9, hA9, hQ9, hrt9⟩)
                      have hB9 := HB.out.1.step hS9 hA9
                      have hB10 := hB9.alloc (.cells #[.int .i64 (d : Int), .int .i64 (KD : Int), .int .u64 (xa : Int)] 43)
                      have c3 := (HL.out.1.upd hB10.upd).c3 HB.out.2
                      simp only [] at c3
                      have hBk := Blk.new w9 43 #[.int .i64 (d : Int), .int .i64 (KD : Int), .int .u64 (xa : Int)]
                      have r0 := hBk.cell 0
                      have r1 := hBk.cell 1
                      have r2 := hBk.cell 2
                      simp only [List.getElem?_toArray, List.getElem?_cons_zero, List.getElem?_cons_succ] at r0 r1 r2
                      have H10 := Lib.hid (And.intro hB10.drew hQ9)
                      clear hS9 hA9 hQ9 hrt9 hB9 hB10 hBk HX HB
                      rcases hkc with rfl | rfl
                      · rw [show ((1 : Nat) : Int) = 1 from rfl] at H10 r1 ⊢
                        go_wp2_with fail
                        refine wpE_region (S := fun (W' : World) => W'.cell? ⟨w9.heap.size, 0, none⟩ = some (.int .i64 (d : Int)) ∧ W'.cell? ⟨w9.heap.size, 1, none⟩ = some (.int .i64 1) ∧ W'.cell? ⟨w9.heap.size, 2, none⟩ = some (.int .u64 (xa : Int)) ∧ W'.cell? ⟨g, o + k * 8 + 3, none⟩ = some (.int .u64 (xa : Int))) (s := 27) (by kernel_rfl) ?_
                        have hS : (fun (W' : World) => W'.cell? ⟨w9.heap.size, 0, none⟩ = some (.int .i64 (d : Int)) ∧ W'.cell? ⟨w9.heap.size, 1, none⟩ = some (.int .i64 1) ∧ W'.cell? ⟨w9.heap.size, 2, none⟩ = some (.int .u64 (xa : Int)) ∧ W'.cell? ⟨g, o + k * 8 + 3, none⟩ = some (.int .u64 (xa : Int))) _ := ⟨r0, r1, r2, c3⟩
                        refine wpE_take (i := 0) (oi := { dst := some 170, op := Go.Op.move (Go.Operand.tmp 25), type := 4, pos := "law.go:140", after := #[], guard := none }) (v := ?_) rfl (by kernel_rfl) (fun _ _ _ h => h) (Or.inl ⟨by rfl, fun W hW => ?_⟩) hS ?_
                        rotate_left
                        · obtain ⟨hw1, hw2, hw3, hw4⟩ := hW; go_simp; (try go_bits); (try rw [if_pos (by omega)]); (try with_reducible rfl)
                        (try simp only [Act.put, List.setIfInBounds_toArray, List.set_cons_succ, List.set_cons_zero])
                        refine wpE_take (i := 1) (oi := { dst := some 171, op := Go.Op.unOp Go.UnOp.not 4 (Go.Operand.tmp 170), type := 4, pos := "law.go:140", after := #[{ on := 0, ground := Go.Ground.data }], guard := none }) (v := ?_) rfl (by kernel_rfl) (fun _ _ _ h => h) (Or.inl ⟨by rfl, fun W hW => ?_⟩) hS ?_
                        rotate_left
                        · obtain ⟨hw1, hw2, hw3, hw4⟩ := hW; go_simp; (try go_bits); (try rw [if_pos (by omega)]); (try with_reducible rfl)
                        (try simp only [Act.put, List.setIfInBounds_toArray, List.set_cons_succ, List.set_cons_zero])
                        refine wpE_take (i := 2) (oi := { dst := some 172, op := Go.Op.move (Go.Operand.tmp 171), type := 4, pos := "law.go:140", after := #[{ on := 1, ground := Go.Ground.data }], guard := none }) (v := ?_) rfl (by kernel_rfl) (fun _ _ _ h => h) (Or.inl ⟨by rfl, fun W hW => ?_⟩) hS ?_
                        rotate_left
                        · obtain ⟨hw1, hw2, hw3, hw4⟩ := hW; go_simp; (try go_bits); (try rw [if_pos (by omega)]); (try with_reducible rfl)
                        (try simp only [Act.put, List.setIfInBounds_toArray, List.set_cons_succ, List.set_cons_zero])
                        refine wpE_take (i := 3) (oi := { dst := some 173, op := Go.Op.fieldAddr 43 (Go.Operand.tmp 24) 0, type := 0, pos := "law.go:140", after := #[{ on := 2, ground := Go.Ground.guard }], guard := some (2, false) }) (v := ?_) rfl (by kernel_rfl) (fun _ _ _ h => h) (Or.inl ⟨by rfl, fun W hW => ?_⟩) hS ?_
                        rotate_left
                        · obtain ⟨hw1, hw2, hw3, hw4⟩ := hW; go_simp; (try go_bits); (try rw [if_pos (by omega)]); (try with_reducible rfl)
                        (try simp only [Act.put, List.setIfInBounds_toArray, List.set_cons_succ, List.set_cons_zero])
                        refine wpE_take (i := 4) (oi := { dst := some 174, op := Go.Op.load 3 (Go.Operand.tmp 173), type := 3, pos := "law.go:140", after := #[{ on := 3, ground := Go.Ground.data }, { on := 2, ground := Go.Ground.guard }], guard := some (2, false) }) (v := ?_) rfl (by kernel_rfl) (fun _ _ _ h => h) (Or.inl ⟨by rfl, fun W hW => ?_⟩) hS ?_
                        rotate_left
                        · obtain ⟨hw1, hw2, hw3, hw4⟩ := hW; go_simp; (try go_bits); (try rw [if_pos (by omega)]); (try with_reducible rfl)
                        (try simp only [Act.put, List.setIfInBounds_toArray, List.set_cons_succ, List.set_cons_zero])
                        refine wpE_take (i := 5) (oi := { dst := some 175, op := Go.Op.move (Go.Operand.tmp 11), type := 3, pos := "law.go:140", after := #[{ on := 2, ground := Go.Ground.guard }], guard := some (2, false) }) (v := ?_) rfl (by kernel_rfl) (fun _ _ _ h => h) (Or.inl ⟨by rfl, fun W hW => ?_⟩) hS ?_
                        rotate_left
                        · obtain ⟨hw1, hw2, hw3, hw4⟩ := hW; go_simp; (try go_bits); (try rw [if_pos (by omega)]); (try with_reducible rfl)
                        (try simp only [Act.put, List.setIfInBounds_toArray, List.set_cons_succ, List.set_cons_zero])
                        refine wpE_take (i := 6) (oi := { dst := some 176, op := Go.Op.binOp Go.BinOp.neq 3 (Go.Operand.tmp 174) (Go.Operand.tmp 175) 3, type := 4, pos := "law.go:140", after := #[{ on := 4, ground := Go.Ground.data }, { on := 5, ground := Go.Ground.data }, { on := 2, ground := Go.Ground.guard }], guard := some (2, false) }) (v := ?_) rfl (by kernel_rfl) (fun _ _ _ h => h) (Or.inl ⟨by rfl, fun W hW => ?_⟩) hS ?_
                        rotate_left
                        · obtain ⟨hw1, hw2, hw3, hw4⟩ := hW; go_simp; (try go_bits); (try rw [if_pos (by omega)]); (try with_reducible rfl)
                        (try simp only [Act.put, List.setIfInBounds_toArray, List.set_cons_succ, List.set_cons_zero])
                        refine wpE_take (i := 7) (oi := { dst := some 177, op := Go.Op.pick (Go.Operand.tmp 172) (Go.Operand.const (Go.Value.bool true)) (Go.Operand.tmp 176), type := 4, pos := "law.go:140", after := #[{ on := 2, ground := Go.Ground.data }, { on := 6, ground := Go.Ground.data }], guard := none }) (v := ?_) rfl (by kernel_rfl) (fun _ _ _ h => h) (Or.inl ⟨by rfl, fun W hW => ?_⟩) hS ?_
                        rotate_left
                        · obtain ⟨hw1, hw2, hw3, hw4⟩ := hW; go_simp; (try go_bits); (try rw [if_pos (by omega)]); (try with_reducible rfl)
                        (try simp only [Act.put, List.setIfInBounds_toArray, List.set_cons_succ, List.set_cons_zero])
                        refine wpE_take (i := 8) (oi := { dst := some 178, op := Go.Op.move (Go.Operand.tmp 177), type := 4, pos := "law.go:140", after := #[{ on := 7, ground := Go.Ground.data }, { on := 2, ground := Go.Ground.chain }], guard := none }) (v := ?_) rfl (by kernel_rfl) (fun _ _ _ h => h) (Or.inl ⟨by rfl, fun W hW => ?_⟩) hS ?_
                        rotate_left
                        · obtain ⟨hw1, hw2, hw3, hw4⟩ := hW; go_simp; (try go_bits); (try rw [if_pos (by omega)]); (try with_reducible rfl)
                        (try simp only [Act.put, List.setIfInBounds_toArray, List.set_cons_succ, List.set_cons_zero])
                        refine wpE_take (i := 9) (oi := { dst := some 179, op := Go.Op.fieldAddr 43 (Go.Operand.tmp 24) 2, type := 0, pos := "law.go:140", after := #[{ on := 8, ground := Go.Ground.guard }], guard := some (8, false) }) (v := ?_) rfl (by kernel_rfl) (fun _ _ _ h => h) (Or.inl ⟨by rfl, fun W hW => ?_⟩) hS ?_
                        rotate_left
                        · obtain ⟨hw1, hw2, hw3, hw4⟩ := hW; go_simp; (try go_bits); (try rw [if_pos (by omega)]); (try with_reducible rfl)
                        (try simp only [Act.put, List.setIfInBounds_toArray, List.set_cons_succ, List.set_cons_zero])
                        refine wpE_take (i := 10) (oi := { dst := some 180, op := Go.Op.load 22 (Go.Operand.tmp 179), type := 22, pos := "law.go:140", after := #[{ on := 9, ground := Go.Ground.data }, { on := 8, ground := Go.Ground.guard }], guard := some (8, false) }) (v := ?_) rfl (by kernel_rfl) (fun _ _ _ h => h) (Or.inl ⟨by rfl, fun W hW => ?_⟩) hS ?_
                        rotate_left
                        · obtain ⟨hw1, hw2, hw3, hw4⟩ := hW; go_simp; (try go_bits); (try rw [if_pos (by omega)]); (try with_reducible rfl)
                        (try simp only [Act.put, List.setIfInBounds_toArray, List.set_cons_succ, List.set_cons_zero])
                        refine wpE_take (i := 11) (oi := { dst := some 181, op := Go.Op.move (Go.Operand.tmp 1), type := 49, pos := "law.go:140", after := #[{ on := 8, ground := Go.Ground.guard }], guard := some (8, false) }) (v := ?_) rfl (by kernel_rfl) (fun _ _ _ h => h) (Or.inl ⟨by rfl, fun W hW => ?_⟩) hS ?_
                        rotate_left
                        · obtain ⟨hw1, hw2, hw3, hw4⟩ := hW; go_simp; (try go_bits); (try rw [if_pos (by omega)]); (try with_reducible rfl)
                        (try simp only [Act.put, List.setIfInBounds_toArray, List.set_cons_succ, List.set_cons_zero])
                        refine wpE_take (i := 12) (oi := { dst := some 182, op := Go.Op.move (Go.Operand.tmp 23), type := 3, pos := "law.go:140", after := #[{ on := 8, ground := Go.Ground.guard }], guard := some (8, false) }) (v := ?_) rfl (by kernel_rfl) (fun _ _ _ h => h) (Or.inl ⟨by rfl, fun W hW => ?_⟩) hS ?_
                        rotate_left
                        · obtain ⟨hw1, hw2, hw3, hw4⟩ := hW; go_simp; (try go_bits); (try rw [if_pos (by omega)]); (try with_reducible rfl)
                        (try simp only [Act.put, List.setIfInBounds_toArray, List.set_cons_succ, List.set_cons_zero])
                        refine wpE_take (i := 13) (oi := { dst := some 183, op := Go.Op.indexAddr 49 (Go.Operand.tmp 181) (Go.Operand.tmp 182), type := 0, pos := "law.go:140", after := #[{ on := 11, ground := Go.Ground.data }, { on := 12, ground := Go.Ground.data }, { on := 8, ground := Go.Ground.guard }], guard := some (8, false) }) (v := ?_) rfl (by kernel_rfl) (fun _ _ _ h => h) (Or.inl ⟨by rfl, fun W hW => ?_⟩) hS ?_
                        rotate_left
                        · obtain ⟨hw1, hw2, hw3, hw4⟩ := hW; go_simp; (try go_bits); (try rw [if_pos (by omega)]); (try with_reducible rfl)
                        (try simp only [Act.put, List.setIfInBounds_toArray, List.set_cons_succ, List.set_cons_zero])
                        refine wpE_take (i := 14) (oi := { dst := some 184, op := Go.Op.fieldAddr 54 (Go.Operand.tmp 183) 3, type := 0, pos := "law.go:140", after := #[{ on := 13, ground := Go.Ground.data }, { on := 8, ground := Go.Ground.guard }], guard := some (8, false) }) (v := ?_) rfl (by kernel_rfl) (fun _ _ _ h => h) (Or.inl ⟨by rfl, fun W hW => ?_⟩) hS ?_
                        rotate_left
                        · obtain ⟨hw1, hw2, hw3, hw4⟩ := hW; go_simp; (try go_bits); (try rw [if_pos (by omega)]); (try with_reducible rfl)
                        (try simp only [Act.put, List.setIfInBounds_toArray, List.set_cons_succ, List.set_cons_zero])
                        refine wpE_take (i := 15) (oi := { dst := some 185, op := Go.Op.load 22 (Go.Operand.tmp 184), type := 22, pos := "law.go:140", after := #[{ on := 14, ground := Go.Ground.data }, { on := 8, ground := Go.Ground.guard }], guard := some (8, false) }) (v := ?_) rfl (by kernel_rfl) (fun _ _ _ h => h) (Or.inl ⟨by rfl, fun W hW => ?_⟩) hS ?_
                        rotate_left
                        · obtain ⟨hw1, hw2, hw3, hw4⟩ := hW; go_simp; (try go_bits); (try rw [if_pos (by omega)]); (try with_reducible rfl)
                        (try simp only [Act.put, List.setIfInBounds_toArray, List.set_cons_succ, List.set_cons_zero])
                        refine wpE_take (i := 16) (oi := { dst := some 186, op := Go.Op.binOp Go.BinOp.neq 22 (Go.Operand.tmp 180) (Go.Operand.tmp 185) 22, type := 4, pos := "law.go:140", after := #[{ on := 10, ground := Go.Ground.data }, { on := 15, ground := Go.Ground.data }, { on := 8, ground := Go.Ground.guard }], guard := some (8, false) }) (v := ?_) rfl (by kernel_rfl) (fun _ _ _ h => h) (Or.inl ⟨by rfl, fun W hW => ?_⟩) hS ?_
                        rotate_left
                        · obtain ⟨hw1, hw2, hw3, hw4⟩ := hW; go_simp; (try go_bits); (try rw [if_pos (by omega)]); (try with_reducible rfl)
                        (try simp only [Act.put, List.setIfInBounds_toArray, List.set_cons_succ, List.set_cons_zero])
                        refine wpE_take (i := 17) (oi := { dst := some 187, op := Go.Op.pick (Go.Operand.tmp 178) (Go.Operand.const (Go.Value.bool true)) (Go.Operand.tmp 186), type := 4, pos := "law.go:140", after := #[{ on := 8, ground := Go.Ground.data }, { on := 16, ground := Go.Ground.data }], guard := none }) (v := ?_) rfl (by kernel_rfl) (fun _ _ _ h => h) (Or.inl ⟨by rfl, fun W hW => ?_⟩) hS ?_
                        rotate_left
                        · obtain ⟨hw1, hw2, hw3, hw4⟩ := hW; go_simp; (try go_bits); (try rw [if_pos (by omega)]); (try with_reducible rfl)
                        (try simp only [Act.put, List.setIfInBounds_toArray, List.set_cons_succ, List.set_cons_zero])
                        refine wpE_take (i := 18) (oi := { dst := some 188, op := Go.Op.move (Go.Operand.tmp 187), type := 4, pos := "law.go:140", after := #[{ on := 17, ground := Go.Ground.data }, { on := 8, ground := Go.Ground.chain }], guard := none }) (v := ?_) rfl (by kernel_rfl) (fun _ _ _ h => h) (Or.inl ⟨by rfl, fun W hW => ?_⟩) hS ?_
                        rotate_left
                        · obtain ⟨hw1, hw2, hw3, hw4⟩ := hW; go_simp; (try go_bits); (try rw [if_pos (by omega)]); (try with_reducible rfl)
                        (try simp only [Act.put, List.setIfInBounds_toArray, List.set_cons_succ, List.set_cons_zero])
                        refine wpE_take (i := 19) (oi := { dst := some 189, op := Go.Op.fieldAddr 43 (Go.Operand.tmp 24) 1, type := 0, pos := "law.go:140", after := #[{ on := 18, ground := Go.Ground.guard }], guard := some (18, false) }) (v := ?_) rfl (by kernel_rfl) (fun _ _ _ h => h) (Or.inl ⟨by rfl, fun W hW => ?_⟩) hS ?_
                        rotate_left
                        · obtain ⟨hw1, hw2, hw3, hw4⟩ := hW; go_simp; (try go_bits); (try rw [if_pos (by omega)]); (try with_reducible rfl)
                        (try simp only [Act.put, List.setIfInBounds_toArray, List.set_cons_succ, List.set_cons_zero])
                        refine wpE_take (i := 20) (oi := { dst := some 190, op := Go.Op.load 3 (Go.Operand.tmp 189), type := 3, pos := "law.go:140", after := #[{ on := 19, ground := Go.Ground.data }, { on := 18, ground := Go.Ground.guard }], guard := some (18, false) }) (v := ?_) rfl (by kernel_rfl) (fun _ _ _ h => h) (Or.inl ⟨by rfl, fun W hW => ?_⟩) hS ?_
                        rotate_left
                        · obtain ⟨hw1, hw2, hw3, hw4⟩ := hW; go_simp; (try go_bits); (try rw [if_pos (by omega)]); (try with_reducible rfl)
                        (try simp only [Act.put, List.setIfInBounds_toArray, List.set_cons_succ, List.set_cons_zero])
                        refine wpE_take (i := 21) (oi := { dst := some 191, op := Go.Op.binOp Go.BinOp.neq 3 (Go.Operand.tmp 190) (Go.Operand.const (Go.Value.int Go.IntKind.i64 1)) 3, type := 4, pos := "law.go:140", after := #[{ on := 20, ground := Go.Ground.data }, { on := 18, ground := Go.Ground.guard }], guard := some (18, false) }) (v := ?_) rfl (by kernel_rfl) (fun _ _ _ h => h) (Or.inl ⟨by rfl, fun W hW => ?_⟩) hS ?_
                        rotate_left
                        · obtain ⟨hw1, hw2, hw3, hw4⟩ := hW; go_simp; (try go_bits); (try rw [if_pos (by omega)]); (try with_reducible rfl)
                        (try simp only [Act.put, List.setIfInBounds_toArray, List.set_cons_succ, List.set_cons_zero])
                        refine wpE_take (i := 22) (oi := { dst := some 192, op := Go.Op.move (Go.Operand.tmp 191), type := 4, pos := "law.go:140", after := #[{ on := 21, ground := Go.Ground.data }, { on := 18, ground := Go.Ground.chain }, { on := 18, ground := Go.Ground.guard }], guard := some (18, false) }) (v := ?_) rfl (by kernel_rfl) (fun _ _ _ h => h) (Or.inl ⟨by rfl, fun W hW => ?_⟩) hS ?_
                        rotate_left
                        · obtain ⟨hw1, hw2, hw3, hw4⟩ := hW; go_simp; (try go_bits); (try rw [if_pos (by omega)]); (try with_reducible rfl)
                        (try simp only [Act.put, List.setIfInBounds_toArray, List.set_cons_succ, List.set_cons_zero])
                        refine wpE_take (i := 23) (oi := { dst := some 193, op := Go.Op.fieldAddr 43 (Go.Operand.tmp 24) 1, type := 0, pos := "law.go:140", after := #[{ on := 22, ground := Go.Ground.guard }], guard := some (22, true) }) (v := undef) rfl (by kernel_rfl) (fun _ _ _ h => h) (Or.inr ⟨by rfl, rfl⟩) hS ?_
                        (try simp only [Act.put, List.setIfInBounds_toArray, List.set_cons_succ, List.set_cons_zero])
                        refine wpE_take (i := 24) (oi := { dst := some 194, op := Go.Op.load 3 (Go.Operand.tmp 193), type := 3, pos := "law.go:140", after := #[{ on := 23, ground := Go.Ground.data }, { on := 22, ground := Go.Ground.guard }], guard := some (22, true) }) (v := undef) rfl (by kernel_rfl) (fun _ _ _ h => h) (Or.inr ⟨by rfl, rfl⟩) hS ?_
                        (try simp only [Act.put, List.setIfInBounds_toArray, List.set_cons_succ, List.set_cons_zero])
                        refine wpE_take (i := 25) (oi := { dst := some 195, op := Go.Op.binOp Go.BinOp.neq 3 (Go.Operand.tmp 194) (Go.Operand.const (Go.Value.int Go.IntKind.i64 4)) 3, type := 4, pos := "law.go:140", after := #[{ on := 24, ground := Go.Ground.data }, { on := 22, ground := Go.Ground.guard }], guard := some (22, true) }) (v := undef) rfl (by kernel_rfl) (fun _ _ _ h => h) (Or.inr ⟨by rfl, rfl⟩) hS ?_
                        (try simp only [Act.put, List.setIfInBounds_toArray, List.set_cons_succ, List.set_cons_zero])
                        refine wpE_take (i := 26) (oi := { dst := some 196, op := Go.Op.pick (Go.Operand.tmp 192) (Go.Operand.tmp 195) (Go.Operand.const (Go.Value.bool false)), type := 4, pos := "law.go:140", after := #[{ on := 22, ground := Go.Ground.data }, { on := 25, ground := Go.Ground.data }, { on := 18, ground := Go.Ground.guard }], guard := some (18, false) }) (v := ?_) rfl (by kernel_rfl) (fun _ _ _ h => h) (Or.inl ⟨by rfl, fun W hW => ?_⟩) hS ?_
                        rotate_left
                        · obtain ⟨hw1, hw2, hw3, hw4⟩ := hW; go_simp; (try go_bits); (try rw [if_pos (by omega)]); (try with_reducible rfl)
                        (try simp only [Act.put, List.setIfInBounds_toArray, List.set_cons_succ, List.set_cons_zero])
                        refine wpE_last (oi := { dst := some 197, op := Go.Op.pick (Go.Operand.tmp 188) (Go.Operand.const (Go.Value.bool true)) (Go.Operand.tmp 196), type := 4, pos := "law.go:140", after := #[{ on := 18, ground := Go.Ground.data }, { on := 26, ground := Go.Ground.data }], guard := none }) rfl (by kernel_rfl) (by kernel_rfl) (by rfl) (fun K hK => ?_)
                        go_simp; (try go_bits); refine hK _ _ ?_; clear hK K
                        go_wp2
                        exact ⟨⟨k + 1, by omega, by go_num, _, s9, m8, l8, H10.out⟩, by simp [intOf]; omega⟩
                      · rw [show ((4 : Nat) : Int) = 4 from rfl] at H10 r1 ⊢
                        go_wp2_with fail
                        refine wpE_region (S := fun (W' : World) => W'.cell? ⟨w9.heap.size, 0, none⟩ = some (.int .i64 (d : Int)) ∧ W'.cell? ⟨w9.heap.size, 1, none⟩ = some (.int .i64 4) ∧ W'.cell? ⟨w9.heap.size, 2, none⟩ = some (.int .u64 (xa : Int)) ∧ W'.cell? ⟨g, o + k * 8 + 3, none⟩ = some (.int .u64 (xa : Int))) (s := 27) (by kernel_rfl) ?_
                        have hS : (fun (W' : World) => W'.cell? ⟨w9.heap.size, 0, none⟩ = some (.int .i64 (d : Int)) ∧ W'.cell? ⟨w9.heap.size, 1, none⟩ = some (.int .i64 4) ∧ W'.cell? ⟨w9.heap.size, 2, none⟩ = some (.int .u64 (xa : Int)) ∧ W'.cell? ⟨g, o + k * 8 + 3, none⟩ = some (.int .u64 (xa : Int))) _ := ⟨r0, r1, r2, c3⟩
                        refine wpE_take (i := 0) (oi := { dst := some 170, op := Go.Op.move (Go.Operand.tmp 25), type := 4, pos := "law.go:140", after := #[], guard := none }) (v := ?_) rfl (by kernel_rfl) (fun _ _ _ h => h) (Or.inl ⟨by rfl, fun W hW => ?_⟩) hS ?_
                        rotate_left
                        · obtain ⟨hw1, hw2, hw3, hw4⟩ := hW; go_simp; (try go_bits); (try rw [if_pos (by omega)]); (try with_reducible rfl)
                        (try simp only [Act.put, List.setIfInBounds_toArray, List.set_cons_succ, List.set_cons_zero])
                        refine wpE_take (i := 1) (oi := { dst := some 171, op := Go.Op.unOp Go.UnOp.not 4 (Go.Operand.tmp 170), type := 4, pos := "law.go:140", after := #[{ on := 0, ground := Go.Ground.data }], guard := none }) (v := ?_) rfl (by kernel_rfl) (fun _ _ _ h => h) (Or.inl ⟨by rfl, fun W hW => ?_⟩) hS ?_
                        rotate_left
                        · obtain ⟨hw1, hw2, hw3, hw4⟩ := hW; go_simp; (try go_bits); (try rw [if_pos (by omega)]); (try with_reducible rfl)
                        (try simp only [Act.put, List.setIfInBounds_toArray, List.set_cons_succ, List.set_cons_zero])
                        refine wpE_take (i := 2) (oi := { dst := some 172, op := Go.Op.move (Go.Operand.tmp 171), type := 4, pos := "law.go:140", after := #[{ on := 1, ground := Go.Ground.data }], guard := none }) (v := ?_) rfl (by kernel_rfl) (fun _ _ _ h => h) (Or.inl ⟨by rfl, fun W hW => ?_⟩) hS ?_
                        rotate_left
                        · obtain ⟨hw1, hw2, hw3, hw4⟩ := hW; go_simp; (try go_bits); (try rw [if_pos (by omega)]); (try with_reducible rfl)
                        (try simp only [Act.put, List.setIfInBounds_toArray, List.set_cons_succ, List.set_cons_zero])
                        refine wpE_take (i := 3) (oi := { dst := some 173, op := Go.Op.fieldAddr 43 (Go.Operand.tmp 24) 0, type := 0, pos := "law.go:140", after := #[{ on := 2, ground := Go.Ground.guard }], guard := some (2, false) }) (v := ?_) rfl (by kernel_rfl) (fun _ _ _ h => h) (Or.inl ⟨by rfl, fun W hW => ?_⟩) hS ?_
                        rotate_left
                        · obtain ⟨hw1, hw2, hw3, hw4⟩ := hW; go_simp; (try go_bits); (try rw [if_pos (by omega)]); (try with_reducible rfl)
                        (try simp only [Act.put, List.setIfInBounds_toArray, List.set_cons_succ, List.set_cons_zero])
                        refine wpE_take (i := 4) (oi := { dst := some 174, op := Go.Op.load 3 (Go.Operand.tmp 173), type := 3, pos := "law.go:140", after := #[{ on := 3, ground := Go.Ground.data }, { on := 2, ground := Go.Ground.guard }], guard := some (2, false) }) (v := ?_) rfl (by kernel_rfl) (fun _ _ _ h => h) (Or.inl ⟨by rfl, fun W hW => ?_⟩) hS ?_
                        rotate_left
                        · obtain ⟨hw1, hw2, hw3, hw4⟩ := hW; go_simp; (try go_bits); (try rw [if_pos (by omega)]); (try with_reducible rfl)
                        (try simp only [Act.put, List.setIfInBounds_toArray, List.set_cons_succ, List.set_cons_zero])
                        refine wpE_take (i := 5) (oi := { dst := some 175, op := Go.Op.move (Go.Operand.tmp 11), type := 3, pos := "law.go:140", after := #[{ on := 2, ground := Go.Ground.guard }], guard := some (2, false) }) (v := ?_) rfl (by kernel_rfl) (fun _ _ _ h => h) (Or.inl ⟨by rfl, fun W hW => ?_⟩) hS ?_
                        rotate_left
                        · obtain ⟨hw1, hw2, hw3, hw4⟩ := hW; go_simp; (try go_bits); (try rw [if_pos (by omega)]); (try with_reducible rfl)
                        (try simp only [Act.put, List.setIfInBounds_toArray, List.set_cons_succ, List.set_cons_zero])
                        refine wpE_take (i := 6) (oi := { dst := some 176, op := Go.Op.binOp Go.BinOp.neq 3 (Go.Operand.tmp 174) (Go.Operand.tmp 175) 3, type := 4, pos := "law.go:140", after := #[{ on := 4, ground := Go.Ground.data }, { on := 5, ground := Go.Ground.data }, { on := 2, ground := Go.Ground.guard }], guard := some (2, false) }) (v := ?_) rfl (by kernel_rfl) (fun _ _ _ h => h) (Or.inl ⟨by rfl, fun W hW => ?_⟩) hS ?_
                        rotate_left
                        · obtain ⟨hw1, hw2, hw3, hw4⟩ := hW; go_simp; (try go_bits); (try rw [if_pos (by omega)]); (try with_reducible rfl)
                        (try simp only [Act.put, List.setIfInBounds_toArray, List.set_cons_succ, List.set_cons_zero])
                        refine wpE_take (i := 7) (oi := { dst := some 177, op := Go.Op.pick (Go.Operand.tmp 172) (Go.Operand.const (Go.Value.bool true)) (Go.Operand.tmp 176), type := 4, pos := "law.go:140", after := #[{ on := 2, ground := Go.Ground.data }, { on := 6, ground := Go.Ground.data }], guard := none }) (v := ?_) rfl (by kernel_rfl) (fun _ _ _ h => h) (Or.inl ⟨by rfl, fun W hW => ?_⟩) hS ?_
                        rotate_left
                        · obtain ⟨hw1, hw2, hw3, hw4⟩ := hW; go_simp; (try go_bits); (try rw [if_pos (by omega)]); (try with_reducible rfl)
                        (try simp only [Act.put, List.setIfInBounds_toArray, List.set_cons_succ, List.set_cons_zero])
                        refine wpE_take (i := 8) (oi := { dst := some 178, op := Go.Op.move (Go.Operand.tmp 177), type := 4, pos := "law.go:140", after := #[{ on := 7, ground := Go.Ground.data }, { on := 2, ground := Go.Ground.chain }], guard := none }) (v := ?_) rfl (by kernel_rfl) (fun _ _ _ h => h) (Or.inl ⟨by rfl, fun W hW => ?_⟩) hS ?_
                        rotate_left
                        · obtain ⟨hw1, hw2, hw3, hw4⟩ := hW; go_simp; (try go_bits); (try rw [if_pos (by omega)]); (try with_reducible rfl)
                        (try simp only [Act.put, List.setIfInBounds_toArray, List.set_cons_succ, List.set_cons_zero])
                        refine wpE_take (i := 9) (oi := { dst := some 179, op := Go.Op.fieldAddr 43 (Go.Operand.tmp 24) 2, type := 0, pos := "law.go:140", after := #[{ on := 8, ground := Go.Ground.guard }], guard := some (8, false) }) (v := ?_) rfl (by kernel_rfl) (fun _ _ _ h => h) (Or.inl ⟨by rfl, fun W hW => ?_⟩) hS ?_
                        rotate_left
                        · obtain ⟨hw1, hw2, hw3, hw4⟩ := hW; go_simp; (try go_bits); (try rw [if_pos (by omega)]); (try with_reducible rfl)
                        (try simp only [Act.put, List.setIfInBounds_toArray, List.set_cons_succ, List.set_cons_zero])
                        refine wpE_take (i := 10) (oi := { dst := some 180, op := Go.Op.load 22 (Go.Operand.tmp 179), type := 22, pos := "law.go:140", after := #[{ on := 9, ground := Go.Ground.data }, { on := 8, ground := Go.Ground.guard }], guard := some (8, false) }) (v := ?_) rfl (by kernel_rfl) (fun _ _ _ h => h) (Or.inl ⟨by rfl, fun W hW => ?_⟩) hS ?_
                        rotate_left
                        · obtain ⟨hw1, hw2, hw3, hw4⟩ := hW; go_simp; (try go_bits); (try rw [if_pos (by omega)]); (try with_reducible rfl)
                        (try simp only [Act.put, List.setIfInBounds_toArray, List.set_cons_succ, List.set_cons_zero])
                        refine wpE_take (i := 11) (oi := { dst := some 181, op := Go.Op.move (Go.Operand.tmp 1), type := 49, pos := "law.go:140", after := #[{ on := 8, ground := Go.Ground.guard }], guard := some (8, false) }) (v := ?_) rfl (by kernel_rfl) (fun _ _ _ h => h) (Or.inl ⟨by rfl, fun W hW => ?_⟩) hS ?_
                        rotate_left
                        · obtain ⟨hw1, hw2, hw3, hw4⟩ := hW; go_simp; (try go_bits); (try rw [if_pos (by omega)]); (try with_reducible rfl)
                        (try simp only [Act.put, List.setIfInBounds_toArray, List.set_cons_succ, List.set_cons_zero])
                        refine wpE_take (i := 12) (oi := { dst := some 182, op := Go.Op.move (Go.Operand.tmp 23), type := 3, pos := "law.go:140", after := #[{ on := 8, ground := Go.Ground.guard }], guard := some (8, false) }) (v := ?_) rfl (by kernel_rfl) (fun _ _ _ h => h) (Or.inl ⟨by rfl, fun W hW => ?_⟩) hS ?_
                        rotate_left
                        · obtain ⟨hw1, hw2, hw3, hw4⟩ := hW; go_simp; (try go_bits); (try rw [if_pos (by omega)]); (try with_reducible rfl)
                        (try simp only [Act.put, List.setIfInBounds_toArray, List.set_cons_succ, List.set_cons_zero])
                        refine wpE_take (i := 13) (oi := { dst := some 183, op := Go.Op.indexAddr 49 (Go.Operand.tmp 181) (Go.Operand.tmp 182), type := 0, pos := "law.go:140", after := #[{ on := 11, ground := Go.Ground.data }, { on := 12, ground := Go.Ground.data }, { on := 8, ground := Go.Ground.guard }], guard := some (8, false) }) (v := ?_) rfl (by kernel_rfl) (fun _ _ _ h => h) (Or.inl ⟨by rfl, fun W hW => ?_⟩) hS ?_
                        rotate_left
                        · obtain ⟨hw1, hw2, hw3, hw4⟩ := hW; go_simp; (try go_bits); (try rw [if_pos (by omega)]); (try with_reducible rfl)
                        (try simp only [Act.put, List.setIfInBounds_toArray, List.set_cons_succ, List.set_cons_zero])
                        refine wpE_take (i := 14) (oi := { dst := some 184, op := Go.Op.fieldAddr 54 (Go.Operand.tmp 183) 3, type := 0, pos := "law.go:140", after := #[{ on := 13, ground := Go.Ground.data }, { on := 8, ground := Go.Ground.guard }], guard := some (8, false) }) (v := ?_) rfl (by kernel_rfl) (fun _ _ _ h => h) (Or.inl ⟨by rfl, fun W hW => ?_⟩) hS ?_
                        rotate_left
                        · obtain ⟨hw1, hw2, hw3, hw4⟩ := hW; go_simp; (try go_bits); (try rw [if_pos (by omega)]); (try with_reducible rfl)
                        (try simp only [Act.put, List.setIfInBounds_toArray, List.set_cons_succ, List.set_cons_zero])
                        refine wpE_take (i := 15) (oi := { dst := some 185, op := Go.Op.load 22 (Go.Operand.tmp 184), type := 22, pos := "law.go:140", after := #[{ on := 14, ground := Go.Ground.data }, { on := 8, ground := Go.Ground.guard }], guard := some (8, false) }) (v := ?_) rfl (by kernel_rfl) (fun _ _ _ h => h) (Or.inl ⟨by rfl, fun W hW => ?_⟩) hS ?_
                        rotate_left
                        · obtain ⟨hw1, hw2, hw3, hw4⟩ := hW; go_simp; (try go_bits); (try rw [if_pos (by omega)]); (try with_reducible rfl)
                        (try simp only [Act.put, List.setIfInBounds_toArray, List.set_cons_succ, List.set_cons_zero])
                        refine wpE_take (i := 16) (oi := { dst := some 186, op := Go.Op.binOp Go.BinOp.neq 22 (Go.Operand.tmp 180) (Go.Operand.tmp 185) 22, type := 4, pos := "law.go:140", after := #[{ on := 10, ground := Go.Ground.data }, { on := 15, ground := Go.Ground.data }, { on := 8, ground := Go.Ground.guard }], guard := some (8, false) }) (v := ?_) rfl (by kernel_rfl) (fun _ _ _ h => h) (Or.inl ⟨by rfl, fun W hW => ?_⟩) hS ?_
                        rotate_left
                        · obtain ⟨hw1, hw2, hw3, hw4⟩ := hW; go_simp; (try go_bits); (try rw [if_pos (by omega)]); (try with_reducible rfl)
                        (try simp only [Act.put, List.setIfInBounds_toArray, List.set_cons_succ, List.set_cons_zero])
                        refine wpE_take (i := 17) (oi := { dst := some 187, op := Go.Op.pick (Go.Operand.tmp 178) (Go.Operand.const (Go.Value.bool true)) (Go.Operand.tmp 186), type := 4, pos := "law.go:140", after := #[{ on := 8, ground := Go.Ground.data }, { on := 16, ground := Go.Ground.data }], guard := none }) (v := ?_) rfl (by kernel_rfl) (fun _ _ _ h => h) (Or.inl ⟨by rfl, fun W hW => ?_⟩) hS ?_
                        rotate_left
                        · obtain ⟨hw1, hw2, hw3, hw4⟩ := hW; go_simp; (try go_bits); (try rw [if_pos (by omega)]); (try with_reducible rfl)
                        (try simp only [Act.put, List.setIfInBounds_toArray, List.set_cons_succ, List.set_cons_zero])
                        refine wpE_take (i := 18) (oi := { dst := some 188, op := Go.Op.move (Go.Operand.tmp 187), type := 4, pos := "law.go:140", after := #[{ on := 17, ground := Go.Ground.data }, { on := 8, ground := Go.Ground.chain }], guard := none }) (v := ?_) rfl (by kernel_rfl) (fun _ _ _ h => h) (Or.inl ⟨by rfl, fun W hW => ?_⟩) hS ?_
                        rotate_left
                        · obtain ⟨hw1, hw2, hw3, hw4⟩ := hW; go_simp; (try go_bits); (try rw [if_pos (by omega)]); (try with_reducible rfl)
                        (try simp only [Act.put, List.setIfInBounds_toArray, List.set_cons_succ, List.set_cons_zero])
                        refine wpE_take (i := 19) (oi := { dst := some 189, op := Go.Op.fieldAddr 43 (Go.Operand.tmp 24) 1, type := 0, pos := "law.go:140", after := #[{ on := 18, ground := Go.Ground.guard }], guard := some (18, false) }) (v := ?_) rfl (by kernel_rfl) (fun _ _ _ h => h) (Or.inl ⟨by rfl, fun W hW => ?_⟩) hS ?_
                        rotate_left
                        · obtain ⟨hw1, hw2, hw3, hw4⟩ := hW; go_simp; (try go_bits); (try rw [if_pos (by omega)]); (try with_reducible rfl)
                        (try simp only [Act.put, List.setIfInBounds_toArray, List.set_cons_succ, List.set_cons_zero])
                        refine wpE_take (i := 20) (oi := { dst := some 190, op := Go.Op.load 3 (Go.Operand.tmp 189), type := 3, pos := "law.go:140", after := #[{ on := 19, ground := Go.Ground.data }, { on := 18, ground := Go.Ground.guard }], guard := some (18, false) }) (v := ?_) rfl (by kernel_rfl) (fun _ _ _ h => h) (Or.inl ⟨by rfl, fun W hW => ?_⟩) hS ?_
                        rotate_left
                        · obtain ⟨hw1, hw2, hw3, hw4⟩ := hW; go_simp; (try go_bits); (try rw [if_pos (by omega)]); (try with_reducible rfl)
                        (try simp only [Act.put, List.setIfInBounds_toArray, List.set_cons_succ, List.set_cons_zero])
                        refine wpE_take (i := 21) (oi := { dst := some 191, op := Go.Op.binOp Go.BinOp.neq 3 (Go.Operand.tmp 190) (Go.Operand.const (Go.Value.int Go.IntKind.i64 1)) 3, type := 4, pos := "law.go:140", after := #[{ on := 20, ground := Go.Ground.data }, { on := 18, ground := Go.Ground.guard }], guard := some (18, false) }) (v := ?_) rfl (by kernel_rfl) (fun _ _ _ h => h) (Or.inl ⟨by rfl, fun W hW => ?_⟩) hS ?_
                        rotate_left
                        · obtain ⟨hw1, hw2, hw3, hw4⟩ := hW; go_simp; (try go_bits); (try rw [if_pos (by omega)]); (try with_reducible rfl)
                        (try simp only [Act.put, List.setIfInBounds_toArray, List.set_cons_succ, List.set_cons_zero])
                        refine wpE_take (i := 22) (oi := { dst := some 192, op := Go.Op.move (Go.Operand.tmp 191), type := 4, pos := "law.go:140", after := #[{ on := 21, ground := Go.Ground.data }, { on := 18, ground := Go.Ground.chain }, { on := 18, ground := Go.Ground.guard }], guard := some (18, false) }) (v := ?_) rfl (by kernel_rfl) (fun _ _ _ h => h) (Or.inl ⟨by rfl, fun W hW => ?_⟩) hS ?_
                        rotate_left
                        · obtain ⟨hw1, hw2, hw3, hw4⟩ := hW; go_simp; (try go_bits); (try rw [if_pos (by omega)]); (try with_reducible rfl)
                        (try simp only [Act.put, List.setIfInBounds_toArray, List.set_cons_succ, List.set_cons_zero])
                        refine wpE_take (i := 23) (oi := { dst := some 193, op := Go.Op.fieldAddr 43 (Go.Operand.tmp 24) 1, type := 0, pos := "law.go:140", after := #[{ on := 22, ground := Go.Ground.guard }], guard := some (22, true) }) (v := ?_) rfl (by kernel_rfl) (fun _ _ _ h => h) (Or.inl ⟨by rfl, fun W hW => ?_⟩) hS ?_
                        rotate_left
                        · obtain ⟨hw1, hw2, hw3, hw4⟩ := hW; go_simp; (try go_bits); (try rw [if_pos (by omega)]); (try with_reducible rfl)
                        (try simp only [Act.put, List.setIfInBounds_toArray, List.set_cons_succ, List.set_cons_zero])
                        refine wpE_take (i := 24) (oi := { dst := some 194, op := Go.Op.load 3 (Go.Operand.tmp 193), type := 3, pos := "law.go:140", after := #[{ on := 23, ground := Go.Ground.data }, { on := 22, ground := Go.Ground.guard }], guard := some (22, true) }) (v := ?_) rfl (by kernel_rfl) (fun _ _ _ h => h) (Or.inl ⟨by rfl, fun W hW => ?_⟩) hS ?_
                        rotate_left
                        · obtain ⟨hw1, hw2, hw3, hw4⟩ := hW; go_simp; (try go_bits); (try rw [if_pos (by omega)]); (try with_reducible rfl)
                        (try simp only [Act.put, List.setIfInBounds_toArray, List.set_cons_succ, List.set_cons_zero])
                        refine wpE_take (i := 25) (oi := { dst := some 195, op := Go.Op.binOp Go.BinOp.neq 3 (Go.Operand.tmp 194) (Go.Operand.const (Go.Value.int Go.IntKind.i64 4)) 3, type := 4, pos := "law.go:140", after := #[{ on := 24, ground := Go.Ground.data }, { on := 22, ground := Go.Ground.guard }], guard := some (22, true) }) (v := ?_) rfl (by kernel_rfl) (fun _ _ _ h => h) (Or.inl ⟨by rfl, fun W hW => ?_⟩) hS ?_
                        rotate_left
                        · obtain ⟨hw1, hw2, hw3, hw4⟩ := hW; go_simp; (try go_bits); (try rw [if_pos (by omega)]); (try with_reducible rfl)
                        (try simp only [Act.put, List.setIfInBounds_toArray, List.set_cons_succ, List.set_cons_zero])
                        refine wpE_take (i := 26) (oi := { dst := some 196, op := Go.Op.pick (Go.Operand.tmp 192) (Go.Operand.tmp 195) (Go.Operand.const (Go.Value.bool false)), type := 4, pos := "law.go:140", after := #[{ on := 22, ground := Go.Ground.data }, { on := 25, ground := Go.Ground.data }, { on := 18, ground := Go.Ground.guard }], guard := some (18, false) }) (v := ?_) rfl (by kernel_rfl) (fun _ _ _ h => h) (Or.inl ⟨by rfl, fun W hW => ?_⟩) hS ?_
                        rotate_left
                        · obtain ⟨hw1, hw2, hw3, hw4⟩ := hW; go_simp; (try go_bits); (try rw [if_pos (by omega)]); (try with_reducible rfl)
                        (try simp only [Act.put, List.setIfInBounds_toArray, List.set_cons_succ, List.set_cons_zero])
                        refine wpE_last (oi := { dst := some 197, op := Go.Op.pick (Go.Operand.tmp 188) (Go.Operand.const (Go.Value.bool true)) (Go.Operand.tmp 196), type := 4, pos := "law.go:140", after := #[{ on := 18, ground := Go.Ground.data }, { on := 26, ground := Go.Ground.data }], guard := none }) rfl (by kernel_rfl) (by kernel_rfl) (by rfl) (fun K hK => ?_)
                        go_simp; (try go_bits); refine hK _ _ ?_; clear hK K
                        go_wp2
                        exact ⟨⟨k + 1, by omega, by go_num, _, s9, m8, l8, H10.out⟩, by simp [intOf]; omega⟩
                    · obtain rfl : k = T := by omega
                      rw [List.drop_eq_nil_of_le (by rw [List.length_take, recL_len]; omega)] at hQ
                      have hX := hB.a.a.none_ hQ.none_
                      have hovd : decide (255 < L.length) = s8.ov := hQ.ovf.symm
                      have hovd2 : decide ((256 : Int) ≤ (L.length : Int)) = s8.ov := by rw [← hovd]; congr 1; simp; omega
                      have HX := Lib.hid hX
                      have HB := Lib.hid hB
                      clear hB hX hQ HL HLo
                      go_wp2_with fail
                      ((with_reducible refine HX.out.mono ?_); rintro e w8 ⟨rfl, own8, hS8, hA8⟩)
                      have hB8 := HB.out.step hS8 hA8
                      have hB9 := hB8.alloc (.cells #[.int .i64 0, .int .i64 0, .int .u64 0] 43)
                      have HO := Lib.hid (io_Overflow hB9.a.a.u)
                      obtain ⟨x0, x2, x3, xl⟩ := hB8.cells
                      have H9 := Lib.hid hB9.upd
                      generalize s8.ov = ov at *
                      clear hS8 hA8 hB8 hB9 HX HB
                      go_wp2_with fail
                      ((with_reducible refine HO.out.mono ?_); rintro e wz ⟨rfl, rfl⟩)
                      clear HO
                      rcases ov with _ | _
                      all_goals
                        go_wp2_with fail
                        ((with_reducible refine (awake07 _).mono ?_); rintro e w13 ⟨rfl, hU13⟩)
                        have HE := Lib.hid (H9.out.trans' hU13 (fun _ _ e => e))
                        clear hU13 H9
                        go_wp2
                        go_ret
                        exact ⟨rfl, HE.out⟩
end Go.Proofs.Ytlgcplekcmocbaa
