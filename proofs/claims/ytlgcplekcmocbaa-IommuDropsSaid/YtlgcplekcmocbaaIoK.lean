import Derived.Test.YtlgcplekcmocbaaIoJ
import Derived.Test.YtlgcplekcmocbaaIo8
/- IommuDrops: the walk. -/
namespace Go.Proofs.Ytlgcplekcmocbaa
set_option linter.unusedVariables false
set_option linter.unusedSimpArgs false
open Go.RowKit
set_option maxRecDepth 100000

theorem OpsAt.c5 {w : World} {g o cap : Nat} {L : List OpR} (h : OpsAt w (.slice (some ⟨g, o, none⟩) L.length cap) L) {k : Nat} {x : OpR} (hx : L[k]? = some x) : w.cell? ⟨g, o + k * 8 + 5, none⟩ = some (.bool x.wr) := by
  obtain ⟨g', o', he, _, _, _, _, _, _, e5, _⟩ := h.cells hx
  cases he
  exact e5
theorem cell_parts : ∃ (i : TypeInfo) (z : Value), Try.prog.info? 57 = some i ∧ i.zero = some z ∧ i.size = 2 ∧ i.bytes = 16 ∧ z.cells.size = 2 := by
  have h : (Try.prog.info? 57).map (fun i => (i.zero, i.size, i.bytes)) = some (some (.agg #[.int .i64 0, .int .u64 0]), 2, 16) := by kernel_rfl
  obtain ⟨i, hi, hz, hs, hb⟩ := info_parts h
  exact ⟨i, _, hi, hz, hs, hb, rfl⟩
theorem cells_new2 (w : World) (t : TypeId) (a b : Value) : ∀ j u, [a, b][j]? = some u → (w.alloc (.cells #[a, b] t)).cell? ((⟨w.heap.size, 0, none⟩ : Addr).add j) = some u := by
  intro j u h
  rw [show (⟨w.heap.size, 0, none⟩ : Addr).add j = ⟨w.heap.size, j, none⟩ from by unfold Addr.add; split <;> simp_all, (Blk.new w t #[a, b]).cell]
  simpa using h
set_option maxHeartbeats 4000000 in
theorem drops_calls (A : Option Addr) (cap : Nat) (L : List OpR) (dev : Int) (w : World) (hL : OpsAt w (.slice A L.length cap) L) (hLb : ∀ o ∈ L, OpB o) (hLl : L.length ≤ 9223372036854775807) (hd0 : i64B dev) :
    Calls Try.prog 5 #[.slice A L.length cap, .int .i64 dev] w fun e w' => e = .returned (.bool true) ∧ Upd (fun _ => False) w w' := by
  obtain ⟨d, hd⟩ : ∃ d : Nat, dev % 7 = (d : Int) := ⟨(dev % 7).toNat, by omega⟩
  have hd7 : d < 7 := by omega
  have P1 := fun w => place_calls dev 7 w hd0.1 hd0.2 (by decide) (by decide)
  rw [hd] at P1
  have HP1 := Lib.hid P1
  have HL := Lib.hid (And.intro hL hLb)
  have HT := Lib.hid cell_parts
  clear P1 hd hd0 hL hLb
  go_enter Try.func5, Try.ntmps5
  go_wp2
  have hR0 : Rw 57 2 (ext (fun _ => 1) w 0) 0 (w.alloc (.cells #[.int .i64 512, .int .u64 2049, .int .i64 1024, .int .u64 3073] 57)) (.slice (some ⟨w.heap.size, 0, none⟩) 2 2) (csD 0).length (cellsC (csD 0)) :=
    ⟨rfl, .inr ⟨w.heap.size, 0, 2, _, rfl, ext_new _ _ _ (Nat.le_refl _), Blk.new w _ _, Nat.le_refl _, by unfold maxLen; decide, by decide, rfl⟩⟩
  have hS0 : Step (fun x => x = 0) (fun _ => 1) w (ext (fun _ => 1) w 0) (w.alloc (.cells #[.int .i64 512, .int .u64 2049, .int .i64 1024, .int .u64 3073] 57)) := ⟨(Upd.refl _ _).alloc _, fun b hb => ext_old _ _ _ hb⟩
  have H0 := Lib.hid (And.intro hS0 hR0)
  clear hS0 hR0
  go_loopw [5, 6] (fun s i wr => ∃ (k : Nat), k ≤ 8 ∧ i = .int .i64 (k : Int) ∧ Hid (∃ own', Step (fun x => x = 0) (fun _ => 1) w own' wr ∧ Rw 57 2 own' 0 wr s (csD k).length (cellsC (csD k)))) (fun _ i _ => 8 - (intOf i).toNat)
  case atStart => exact ⟨0, by omega, rfl, _, H0.out⟩
  case round =>
    rename World => wr
    obtain ⟨k, hk, rfl, HLo⟩ := hrel
    clear H0
    by_cases hlt : k < 8
    · obtain ⟨own2, hS2, hO2⟩ := HLo.out
      have hlt' : decide ((k : Int) < 8) = true := by simp; omega
      have hor : bits .or .u64 ((k : Int) * 1024) 223 = ((k * 1024 + 223 : Nat) : Int) := by
        rw [show (k : Int) * 1024 = ((k * 1024 : Nat) : Int) from by omega, show (223 : Int) = ((223 : Nat) : Int) from rfl, u64_or_nat _ _ (by omega) (by decide), nat_join 10 _ _ (by omega) (by decide)]
      obtain ⟨E, hE⟩ : ∃ E, k * 1024 + 223 = E := ⟨_, rfl⟩
      rw [hE] at hor
      have hcs : cellsC (csD (k + 1)) = cellsC (csD k) ++ [.int .i64 (1536 + (k : Int)), .int .u64 (E : Int)] := by rw [csD_succ, cellsC_snoc, hE]; rfl
      have hcl : (csD (k + 1)).length = (csD k).length + 1 := by rw [csD_len, csD_len]; rfl
      have hl10 : (csD k).length ≤ 10 := by rw [csD_len]; omega
      have HC := Lib.hid (And.intro hcs (And.intro hcl hl10))
      obtain ⟨i, z, hi, hz, hs, hby, hzs⟩ := HT.out
      have HI := Lib.hid (And.intro hi (And.intro hz (And.intro hs (And.intro hby hzs))))
      have H2 := Lib.hid (And.intro hS2 hO2)
      obtain ⟨A5, cap5, hv5, _⟩ := hO2.form
      clear hS2 hO2 hi hz hs hby hzs hcs hcl hl10 HLo
      go_wp2_with ((with_reducible show wpList _ _ _ ((⟨some 36, _, _, _, _, _⟩ : Oper) :: _) _ _); refine wpList_append_rw rfl (.tmp 27) (.tmp 35) _ rfl 57 i _ 2 16 Try.underlying48 HI.out.1 HI.out.2.1 HI.out.2.2.1 HI.out.2.2.2.1 HI.out.2.2.2.2 (by omega) (own := own2) (d := 0) u5 _ _ rfl (H2.out.2.step (step_allocS own2 wr _) (fun h => h)) (wr.heap.size + 1) (some ⟨wr.heap.size, 0, none⟩) 1 1 [.int .i64 (1536 + (k : Int)), .int .u64 (E : Int)] rfl ⟨rfl, fun _ => ⟨_, rfl, Nat.lt_succ_self _, cells_new2 _ _ _ _⟩⟩ (by simp [Value.oneCell']) (by unfold maxLen; have := HC.out.2.2; omega) (by have := HC.out.2.2; omega) ?_)
      intro v2 w5 hst5 hrow5
      have hst6 := H2.out.1.trans (((step_allocS own2 wr _).mono (C' := (· = 0)) (fun _ h => h.elim)).trans hst5)
      rw [← HC.out.1, ← HC.out.2.1] at hrow5
      have H6 := Lib.hid (And.intro hst6 hrow5)
      clear hst5 hst6 hrow5 H2
      go_wp2
      exact ⟨⟨k + 1, by omega, by go_num, _, H6.out⟩, by simp [intOf]; omega⟩
    · obtain rfl : k = 8 := by omega
      obtain ⟨own2, hS2, hO2⟩ := HLo.out
      have hU2 : Upd (fun _ => False) w wr := hS2.upd.mono (fun i hi e => absurd e (by decide))
      have hcells := CellsAt.of_rw hO2
      obtain ⟨M0, hM0⟩ : ∃ M0, cellsM 8 (fun _ => 0) (csD 8) = M0 := ⟨_, rfl⟩
      have htab : TabD M0 := by rw [← hM0]; exact ⟨(csD_tab 8 (by decide)).1, (csD_tab 8 (by decide)).2⟩
      have hN := law07_NewC 0 (fun _ => 0) 16 (by decide) wr u5 (csD 8) hcells (by rw [csD_len]; decide) (csD_b 8 (by decide))
      rw [hM0, show ((16 : Nat) : Int) = 16 from rfl] at hN
      have HN := Lib.hid hN
      have HU := Lib.hid (And.intro hU2 htab)
      obtain ⟨A5, cap5, rfl, _⟩ := hO2.form
      clear hS2 hO2 hU2 hcells htab hN hM0 HLo HT
      go_wp2_with fail
      ((with_reducible refine HN.out.mono ?_); rintro e w1 ⟨p, q, rp, tp, p2, t2, own1, rfl, hS1, hO1⟩)
      clear HN
      have hS2 : Step (fun _ => False) own1 w1 (ext own1 w1 50) (w1.alloc (.cells #[.pointer (some ⟨p, 0, none⟩), .pointer (some ⟨q, 0, none⟩), .pointer (some ⟨rp, 0, none⟩), .pointer (some ⟨p2, 0, none⟩)] 31)) := ⟨(Upd.refl _ _).alloc _, fun b hb => ext_old _ _ _ hb⟩
      have hB1 : S1 wr (ext own1 w1 50) (w1.alloc (.cells #[.pointer (some ⟨p, 0, none⟩), .pointer (some ⟨q, 0, none⟩), .pointer (some ⟨rp, 0, none⟩), .pointer (some ⟨p2, 0, none⟩)] 31)) p q rp tp p2 w1.heap.size 16 us0 M0 [] :=
        ⟨(hS1.trans hS2).mono (fun _ h => h.elim), Sd.of_on (hO1.step hS2 (fun x h => h.elim)), Blk.new w1 _ _, ext_new _ _ _ (Nat.le_refl _)⟩
      have hA := hB1.a.set d 1 (by omega) rfl (by decide)
      rw [show ((1 : Nat) : Int) = 1 from rfl, show setR 1 = 0 from rfl] at hA
      have HA := Lib.hid hA
      obtain ⟨x0, xl⟩ := hB1.cell
      have H1 := Lib.hid hB1
      clear hS1 hO1 hS2 hB1 hA
      go_wp2_with fail
      generalize w1.heap.size = xo at *
      ((with_reducible refine (HP1.out _).mono ?_); rintro e wz ⟨rfl, rfl⟩)
      clear HP1
      go_wp2_with fail
      ((with_reducible refine HA.out.mono ?_); rintro e w2 ⟨rfl, own2, hS2, hA2⟩)
      have hB2 := H1.out.step hS2 hA2
      have hA := hB2.a.set (d + 1) 1 (by omega) (by show (if d + 1 = d then 1 else 0) = 0; rw [if_neg (by omega)]) (by decide)
      rw [show ((1 : Nat) : Int) = 1 from rfl, show setR 1 = 0 from rfl, show ((d + 1 : Nat) : Int) = (d : Int) + 1 from by omega] at hA
      have HA2 := Lib.hid hA
      obtain ⟨x0, xl⟩ := hB2.cell
      have H2 := Lib.hid hB2
      clear hS2 hA2 hB2 hA HA H1
      go_wp2_with fail
      ((with_reducible refine HA2.out.mono ?_); rintro e w3 ⟨rfl, own3, hS3, hA3⟩)
      have hB3 := H2.out.step hS3 hA3
      obtain ⟨RT, hRT⟩ : ∃ RT, (usRt (usRt us0 d 1) (d + 1) 1).rt = RT := ⟨_, rfl⟩
      have hr1 : RT d = 1 := by rw [← hRT]; show (if d = d + 1 then 1 else (if d = d then 1 else 0)) = 1; rw [if_neg (by omega), if_pos rfl]
      have hr2 : RT (d + 1) = 1 := by rw [← hRT]; show (if d + 1 = d + 1 then 1 else _) = 1; rw [if_pos rfl]
      obtain ⟨x0, xl⟩ := hB3.cell
      have H3 := Lib.hid (show ∃ own' s l, S1 wr own' w3 p q rp tp p2 xo 16 s M0 l ∧ SoundL 8 M0 RT l ∧ s.rt = RT ∧ s.rd = false from ⟨own3, _, _, hB3, SoundL.nil _ _ _, hRT, rfl⟩)
      have HR := Lib.hid (And.intro hr1 hr2)
      clear hS3 hA3 hB3 HA2 H2 hRT hr1 hr2
      go_wp2
      rename World => wc0
      go_loopw [10] (fun i wr2 => ∃ (j : Nat), j ≤ L.length ∧ i = .int .i64 (j : Int) ∧ Hid (∃ own' s l, S1 wr own' wr2 p q rp tp p2 xo 16 s M0 l ∧ SoundL 8 M0 RT l ∧ s.rt = RT ∧ s.rd = false)) (fun i _ => L.length - (intOf i).toNat)
      case atStart => exact ⟨0, by omega, rfl, H3.out⟩
      case round =>
        rename World => wa
        obtain ⟨j, hj, rfl, HLo⟩ := hrel
        clear H3 x0 xl
        obtain ⟨own4, s4, l4, hB, hSo, hrt, hrd⟩ := HLo.out
        obtain ⟨x0, xl⟩ := hB.cell
        by_cases hlt : j < L.length
        · have hlt' : (j : Int) < (L.length : Int) := by omega
          have hget : L[j]? = some L[j] := List.getElem?_eq_getElem hlt
          have hob := HL.out.2 _ (List.getElem_mem hlt)
          obtain ⟨g, o, rfl, hg, c0, c1, c2, c3, c4, c5, c6, c7⟩ := (HL.out.1.upd (HU.out.1.trans' hB.upd (fun _ _ e => e))).cells hget
          generalize L[j] = x at *
          obtain ⟨xk, xd, xs, xa, xv, xw, xg, xq⟩ := x
          have hxa := hob.a
          simp only [] at c3 c5 hxa
          obtain ⟨a0, ha0⟩ : ∃ a0 : Nat, (xa : Int) % 32768 / 8 = (a0 : Int) := ⟨xa % 32768 / 8, by omega⟩
          have ha0l : a0 < 4096 := by omega
          have hA := hB.drew.good HU.out.2 hSo hrt hrd d (by omega) HR.out.1 a0 ha0l xw
          rw [show ((a0 * 8 : Nat) : Int) = (a0 : Int) * 8 from by omega] at hA
          have HA := Lib.hid hA
          have HG := Lib.hid hget
          clear hB hSo hrt hrd hget hob c0 c1 c2 c4 c6 c7 hA hg HLo
          go_wp2_with fail
          refine wpE_region (S := fun (W' : World) => W'.cell? ⟨xo, 0, none⟩ = some (.pointer (some ⟨p, 0, none⟩)) ∧ W'.cell? ⟨g, o + j * 8 + 5, none⟩ = some (.bool xw)) (s := 14) (by kernel_rfl) ?_
          have hS : (fun (W' : World) => W'.cell? ⟨xo, 0, none⟩ = some (.pointer (some ⟨p, 0, none⟩)) ∧ W'.cell? ⟨g, o + j * 8 + 5, none⟩ = some (.bool xw)) _ := ⟨x0, c5⟩
          refine wpE_take (i := 0) (oi := { dst := some 81, op := Go.Op.fieldAddr 31 (Go.Operand.tmp 7) 0, type := 0, pos := "outright.go:50", after := #[], guard := none }) (v := ?_) rfl (by kernel_rfl) (fun _ _ _ h => h) (Or.inl ⟨by rfl, fun W hW => ?_⟩) hS ?_
          rotate_left
          · obtain ⟨hw1, hw2⟩ := hW; go_simp; (try go_bits); (try rw [if_pos (by omega)]); (try with_reducible rfl)
          (try simp only [Act.put, List.setIfInBounds_toArray, List.set_cons_succ, List.set_cons_zero])
          refine wpE_take (i := 1) (oi := { dst := some 82, op := Go.Op.load 24 (Go.Operand.tmp 81), type := 24, pos := "outright.go:50", after := #[{ on := 0, ground := Go.Ground.data }], guard := none }) (v := ?_) rfl (by kernel_rfl) (fun _ _ _ h => h) (Or.inl ⟨by rfl, fun W hW => ?_⟩) hS ?_
          rotate_left
          · obtain ⟨hw1, hw2⟩ := hW; go_simp; (try go_bits); (try rw [if_pos (by omega)]); (try with_reducible rfl)
          (try simp only [Act.put, List.setIfInBounds_toArray, List.set_cons_succ, List.set_cons_zero])
          refine wpE_take (i := 2) (oi := { dst := some 83, op := Go.Op.move (Go.Operand.tmp 9), type := 3, pos := "outright.go:50", after := #[], guard := none }) (v := ?_) rfl (by kernel_rfl) (fun _ _ _ h => h) (Or.inl ⟨by rfl, fun W hW => ?_⟩) hS ?_
          rotate_left
          · obtain ⟨hw1, hw2⟩ := hW; go_simp; (try go_bits); (try rw [if_pos (by omega)]); (try with_reducible rfl)
          (try simp only [Act.put, List.setIfInBounds_toArray, List.set_cons_succ, List.set_cons_zero])
          refine wpE_take (i := 3) (oi := { dst := some 84, op := Go.Op.move (Go.Operand.tmp 11), type := 22, pos := "outright.go:50", after := #[], guard := none }) (v := ?_) rfl (by kernel_rfl) (fun _ _ _ h => h) (Or.inl ⟨by rfl, fun W hW => ?_⟩) hS ?_
          rotate_left
          · obtain ⟨hw1, hw2⟩ := hW; go_simp; (try go_bits); (try rw [if_pos (by omega)]); (try with_reducible rfl)
          (try simp only [Act.put, List.setIfInBounds_toArray, List.set_cons_succ, List.set_cons_zero])
          refine wpE_take (i := 4) (oi := { dst := some 85, op := Go.Op.move (Go.Operand.tmp 0), type := 49, pos := "outright.go:50", after := #[], guard := none }) (v := ?_) rfl (by kernel_rfl) (fun _ _ _ h => h) (Or.inl ⟨by rfl, fun W hW => ?_⟩) hS ?_
          rotate_left
          · obtain ⟨hw1, hw2⟩ := hW; go_simp; (try go_bits); (try rw [if_pos (by omega)]); (try with_reducible rfl)
          (try simp only [Act.put, List.setIfInBounds_toArray, List.set_cons_succ, List.set_cons_zero])
          refine wpE_take (i := 5) (oi := { dst := some 86, op := Go.Op.move (Go.Operand.tmp 10), type := 3, pos := "outright.go:50", after := #[], guard := none }) (v := ?_) rfl (by kernel_rfl) (fun _ _ _ h => h) (Or.inl ⟨by rfl, fun W hW => ?_⟩) hS ?_
          rotate_left
          · obtain ⟨hw1, hw2⟩ := hW; go_simp; (try go_bits); (try rw [if_pos (by omega)]); (try with_reducible rfl)
          (try simp only [Act.put, List.setIfInBounds_toArray, List.set_cons_succ, List.set_cons_zero])
          refine wpE_take (i := 6) (oi := { dst := some 87, op := Go.Op.indexAddr 49 (Go.Operand.tmp 85) (Go.Operand.tmp 86), type := 0, pos := "outright.go:50", after := #[{ on := 4, ground := Go.Ground.data }, { on := 5, ground := Go.Ground.data }], guard := none }) (v := ?_) rfl (by kernel_rfl) (fun _ _ _ h => h) (Or.inl ⟨by rfl, fun W hW => ?_⟩) hS ?_
          rotate_left
          · obtain ⟨hw1, hw2⟩ := hW; go_simp; (try go_bits); (try rw [if_pos (by omega)]); (try with_reducible rfl)
          (try simp only [Act.put, List.setIfInBounds_toArray, List.set_cons_succ, List.set_cons_zero])
          refine wpE_take (i := 7) (oi := { dst := some 88, op := Go.Op.fieldAddr 54 (Go.Operand.tmp 87) 5, type := 0, pos := "outright.go:50", after := #[{ on := 6, ground := Go.Ground.data }], guard := none }) (v := ?_) rfl (by kernel_rfl) (fun _ _ _ h => h) (Or.inl ⟨by rfl, fun W hW => ?_⟩) hS ?_
          rotate_left
          · obtain ⟨hw1, hw2⟩ := hW; go_simp; (try go_bits); (try rw [if_pos (by omega)]); (try with_reducible rfl)
          (try simp only [Act.put, List.setIfInBounds_toArray, List.set_cons_succ, List.set_cons_zero])
          refine wpE_take (i := 8) (oi := { dst := some 89, op := Go.Op.load 4 (Go.Operand.tmp 88), type := 4, pos := "outright.go:50", after := #[{ on := 7, ground := Go.Ground.data }], guard := none }) (v := ?_) rfl (by kernel_rfl) (fun _ _ _ h => h) (Or.inl ⟨by rfl, fun W hW => ?_⟩) hS ?_
          rotate_left
          · obtain ⟨hw1, hw2⟩ := hW; go_simp; (try go_bits); (try rw [if_pos (by omega)]); (try with_reducible rfl)
          (try simp only [Act.put, List.setIfInBounds_toArray, List.set_cons_succ, List.set_cons_zero])
          refine wpE_only (i := 9) (oi := { dst := some 90, op := Go.Op.call { callee := Go.Callee.value (Go.Operand.func 19), args := #[Go.Operand.tmp 82, Go.Operand.tmp 83, Go.Operand.tmp 84, Go.Operand.const (Go.Value.int Go.IntKind.i64 8), Go.Operand.tmp 89], argTypes := #[24, 3, 22, 3, 4] }, type := 51, pos := "outright.go:50", after := #[{ on := 1, ground := Go.Ground.data }, { on := 2, ground := Go.Ground.data }, { on := 3, ground := Go.Ground.data }, { on := 8, ground := Go.Ground.data }], guard := none }) rfl (by kernel_rfl) (by rfl) (fun K hK => ?_)
          go_simp; refine HA.out.mono ?_; rintro e w7 ⟨rfl, own7, s7, l7, hB7, h7⟩
          have H7 := Lib.hid (And.intro hB7 h7)
          have hU7 := (HU.out.1.trans' hB7.upd (fun _ _ e => e))
          have hS := And.intro hB7.cell.1 ((HL.out.1.upd hU7).c5 HG.out)
          clear HA hB7 h7 hU7
          refine hK _ _ hS ?_; clear hK K
          (try simp only [Act.put, List.setIfInBounds_toArray, List.set_cons_succ, List.set_cons_zero])
          refine wpE_take (i := 10) (oi := { dst := some 80, op := Go.Op.move (Go.Operand.tmp 90), type := 51, pos := "outright.go:50", after := #[{ on := 9, ground := Go.Ground.data }], guard := none }) (v := ?_) rfl (by kernel_rfl) (fun _ _ _ h => h) (Or.inl ⟨by rfl, fun W hW => ?_⟩) hS ?_
          rotate_left
          · obtain ⟨hw1, hw2⟩ := hW; go_simp; (try go_bits); (try rw [if_pos (by omega)]); (try with_reducible rfl)
          (try simp only [Act.put, List.setIfInBounds_toArray, List.set_cons_succ, List.set_cons_zero])
          refine wpE_take (i := 11) (oi := { dst := some 91, op := Go.Op.extract (Go.Operand.tmp 80) 0, type := 22, pos := "outright.go:50", after := #[{ on := 10, ground := Go.Ground.data }], guard := none }) (v := ?_) rfl (by kernel_rfl) (fun _ _ _ h => h) (Or.inl ⟨by rfl, fun W hW => ?_⟩) hS ?_
          rotate_left
          · obtain ⟨hw1, hw2⟩ := hW; go_simp; (try go_bits); (try rw [if_pos (by omega)]); (try with_reducible rfl)
          (try simp only [Act.put, List.setIfInBounds_toArray, List.set_cons_succ, List.set_cons_zero])
          refine wpE_take (i := 12) (oi := { dst := some 92, op := Go.Op.extract (Go.Operand.tmp 80) 1, type := 4, pos := "outright.go:50", after := #[{ on := 10, ground := Go.Ground.data }, { on := 13, ground := Go.Ground.gcOnly Go.Departure.lateStores }], guard := none }) (v := ?_) rfl (by kernel_rfl) (fun _ _ _ h => h) (Or.inl ⟨by rfl, fun W hW => ?_⟩) hS ?_
          rotate_left
          · obtain ⟨hw1, hw2⟩ := hW; go_simp; (try go_bits); (try rw [if_pos (by omega)]); (try with_reducible rfl)
          (try simp only [Act.put, List.setIfInBounds_toArray, List.set_cons_succ, List.set_cons_zero])
          refine wpE_only (i := 13) (oi := { dst := some 12, op := Go.Op.assign (Go.Operand.tmp 91), type := 22, pos := "outright.go:50", after := #[{ on := 11, ground := Go.Ground.data }, { on := 9, ground := Go.Ground.chain }, { on := 0, ground := Go.Ground.phase }, { on := 1, ground := Go.Ground.phase }, { on := 2, ground := Go.Ground.phase }, { on := 3, ground := Go.Ground.phase }, { on := 4, ground := Go.Ground.phase }, { on := 5, ground := Go.Ground.phase }, { on := 6, ground := Go.Ground.phase }, { on := 7, ground := Go.Ground.phase }, { on := 8, ground := Go.Ground.phase }, { on := 9, ground := Go.Ground.phase }, { on := 10, ground := Go.Ground.phase }, { on := 11, ground := Go.Ground.phase }, { on := 12, ground := Go.Ground.textOnly Go.Departure.lateStores }], guard := none }) rfl (by kernel_rfl) (by rfl) (fun K hK => ?_)
          go_simp; (try go_bits); refine hK _ _ hS ?_; clear hK K
          (try simp only [Act.put, List.setIfInBounds_toArray, List.set_cons_succ, List.set_cons_zero])
          refine wpE_last (oi := { dst := some 13, op := Go.Op.assign (Go.Operand.tmp 92), type := 4, pos := "outright.go:50", after := #[{ on := 12, ground := Go.Ground.data }, { on := 13, ground := Go.Ground.chain }, { on := 0, ground := Go.Ground.phase }, { on := 1, ground := Go.Ground.phase }, { on := 2, ground := Go.Ground.phase }, { on := 3, ground := Go.Ground.phase }, { on := 4, ground := Go.Ground.phase }, { on := 5, ground := Go.Ground.phase }, { on := 6, ground := Go.Ground.phase }, { on := 7, ground := Go.Ground.phase }, { on := 8, ground := Go.Ground.phase }, { on := 9, ground := Go.Ground.phase }, { on := 10, ground := Go.Ground.phase }, { on := 11, ground := Go.Ground.phase }, { on := 12, ground := Go.Ground.phase }, { on := 13, ground := Go.Ground.phase }], guard := none }) rfl (by kernel_rfl) (by kernel_rfl) (by rfl) (fun K hK => ?_)
          go_simp; (try go_bits); refine hK _ _ ?_; clear hK K
          clear hS
          go_wp2
          exact ⟨⟨j + 1, by omega, by go_num, own7, s7, l7, H7.out⟩, by simp [intOf]; omega⟩
        · obtain rfl : j = L.length := by omega
          have hA := hB.a.drop d (by omega)
          have HA := Lib.hid hA
          have HX := Lib.hid (And.intro hB (And.intro hSo (And.intro hrt hrd)))
          clear hB hSo hrt hrd hA HLo
          go_wp2_with fail
          ((with_reducible refine HA.out.mono ?_); rintro e w5 ⟨rfl, own5, hS5, hA5⟩)
          have hB5 := HX.out.1.step hS5 hA5
          have hI := hB5.a.inv d
          obtain ⟨x0, xl⟩ := hB5.cell
          have H5 := Lib.hid hB5
          have HI := Lib.hid hI
          clear hS5 hA5 hB5 hI HA
          go_wp2_with fail
          ((with_reducible refine HI.out.mono ?_); rintro e w6 ⟨rfl, own6, hS6, hA6⟩)
          have hB6 := H5.out.step hS6 hA6
          have hsd : SoundL 8 M0 (usRt s4 d 0).rt (flushT l4 d) := SoundL.drop (by rw [HX.out.2.2.1]; exact HX.out.2.1) d
          obtain ⟨RD, hRD⟩ : ∃ RD, (usRt s4 d 0).rt = RD := ⟨_, rfl⟩
          have hd1 : RD d = 0 := by rw [← hRD]; show (if d = d then 0 else _) = 0; rw [if_pos rfl]
          have hd2 : RD (d + 1) = 1 := by rw [← hRD]; show (if d + 1 = d then 0 else s4.rt (d + 1)) = 1; rw [if_neg (by omega), HX.out.2.2.1]; exact HR.out.2
          rw [hRD] at hsd
          obtain ⟨x0, xl⟩ := hB6.cell
          have H6 := Lib.hid (show ∃ own' s l, S1 wr own' w6 p q rp tp p2 xo 16 s M0 l ∧ SoundL 8 M0 RD l ∧ s.rt = RD ∧ s.rd = false from ⟨own6, _, _, hB6, hsd, hRD, HX.out.2.2.2⟩)
          have HRD := Lib.hid (And.intro hd1 hd2)
          clear hS6 hA6 hB6 HI H5 HX hsd hRD hd1 hd2 HR
          go_wp2
          go_loopw [14] (fun i wr2 => ∃ (j : Nat), j ≤ L.length ∧ i = .int .i64 (j : Int) ∧ Hid (∃ own' s l, S1 wr own' wr2 p q rp tp p2 xo 16 s M0 l ∧ SoundL 8 M0 RD l ∧ s.rt = RD ∧ s.rd = false)) (fun i _ => L.length - (intOf i).toNat)
          case atStart => exact ⟨0, by omega, rfl, H6.out⟩
          case round =>
            rename World => wb
            obtain ⟨j, hj, rfl, HLo⟩ := hrel
            clear H6 x0 xl
            obtain ⟨own7, s7, l7, hB, hSo, hrt, hrd⟩ := HLo.out
            obtain ⟨x0, xl⟩ := hB.cell
            by_cases hlt : j < L.length
            · have hlt' : (j : Int) < (L.length : Int) := by omega
              have hget : L[j]? = some L[j] := List.getElem?_eq_getElem hlt
              have hob := HL.out.2 _ (List.getElem_mem hlt)
              obtain ⟨g, o, rfl, hg, c0, c1, c2, c3, c4, c5, c6, c7⟩ := (HL.out.1.upd (HU.out.1.trans' hB.upd (fun _ _ e => e))).cells hget
              generalize L[j] = x at *
              obtain ⟨xk, xd, xs, xa, xv, xw, xg, xq⟩ := x
              have hxa := hob.a
              simp only [] at c3 c5 hxa
              obtain ⟨a0, ha0⟩ : ∃ a0 : Nat, (xa : Int) % 32768 / 8 = (a0 : Int) := ⟨xa % 32768 / 8, by omega⟩
              have ha0l : a0 < 4096 := by omega
              have hA := hB.drew.bad hSo hrt hrd d (by omega) HRD.out.1 a0 ha0l xw
              rw [show ((a0 * 8 : Nat) : Int) = (a0 : Int) * 8 from by omega] at hA
              have HA := Lib.hid hA
              have HG := Lib.hid hget
              clear hB hSo hrt hrd hget hob c0 c1 c2 c4 c6 c7 hA hg HLo
              go_wp2_with fail
              refine wpE_region (S := fun (W' : World) => W'.cell? ⟨xo, 0, none⟩ = some (.pointer (some ⟨p, 0, none⟩)) ∧ W'.cell? ⟨g, o + j * 8 + 5, none⟩ = some (.bool xw)) (s := 14) (by kernel_rfl) ?_
              have hS : (fun (W' : World) => W'.cell? ⟨xo, 0, none⟩ = some (.pointer (some ⟨p, 0, none⟩)) ∧ W'.cell? ⟨g, o + j * 8 + 5, none⟩ = some (.bool xw)) _ := ⟨x0, c5⟩
              refine wpE_take (i := 0) (oi := { dst := some 124, op := Go.Op.fieldAddr 31 (Go.Operand.tmp 7) 0, type := 0, pos := "outright.go:61", after := #[], guard := none }) (v := ?_) rfl (by kernel_rfl) (fun _ _ _ h => h) (Or.inl ⟨by rfl, fun W hW => ?_⟩) hS ?_
              rotate_left
              · obtain ⟨hw1, hw2⟩ := hW; go_simp; (try go_bits); (try rw [if_pos (by omega)]); (try with_reducible rfl)
              (try simp only [Act.put, List.setIfInBounds_toArray, List.set_cons_succ, List.set_cons_zero])
              refine wpE_take (i := 1) (oi := { dst := some 125, op := Go.Op.load 24 (Go.Operand.tmp 124), type := 24, pos := "outright.go:61", after := #[{ on := 0, ground := Go.Ground.data }], guard := none }) (v := ?_) rfl (by kernel_rfl) (fun _ _ _ h => h) (Or.inl ⟨by rfl, fun W hW => ?_⟩) hS ?_
              rotate_left
              · obtain ⟨hw1, hw2⟩ := hW; go_simp; (try go_bits); (try rw [if_pos (by omega)]); (try with_reducible rfl)
              (try simp only [Act.put, List.setIfInBounds_toArray, List.set_cons_succ, List.set_cons_zero])
              refine wpE_take (i := 2) (oi := { dst := some 126, op := Go.Op.move (Go.Operand.tmp 9), type := 3, pos := "outright.go:61", after := #[], guard := none }) (v := ?_) rfl (by kernel_rfl) (fun _ _ _ h => h) (Or.inl ⟨by rfl, fun W hW => ?_⟩) hS ?_
              rotate_left
              · obtain ⟨hw1, hw2⟩ := hW; go_simp; (try go_bits); (try rw [if_pos (by omega)]); (try with_reducible rfl)
              (try simp only [Act.put, List.setIfInBounds_toArray, List.set_cons_succ, List.set_cons_zero])
              refine wpE_take (i := 3) (oi := { dst := some 127, op := Go.Op.move (Go.Operand.tmp 15), type := 22, pos := "outright.go:61", after := #[], guard := none }) (v := ?_) rfl (by kernel_rfl) (fun _ _ _ h => h) (Or.inl ⟨by rfl, fun W hW => ?_⟩) hS ?_
              rotate_left
              · obtain ⟨hw1, hw2⟩ := hW; go_simp; (try go_bits); (try rw [if_pos (by omega)]); (try with_reducible rfl)
              (try simp only [Act.put, List.setIfInBounds_toArray, List.set_cons_succ, List.set_cons_zero])
              refine wpE_take (i := 4) (oi := { dst := some 128, op := Go.Op.move (Go.Operand.tmp 0), type := 49, pos := "outright.go:61", after := #[], guard := none }) (v := ?_) rfl (by kernel_rfl) (fun _ _ _ h => h) (Or.inl ⟨by rfl, fun W hW => ?_⟩) hS ?_
              rotate_left
              · obtain ⟨hw1, hw2⟩ := hW; go_simp; (try go_bits); (try rw [if_pos (by omega)]); (try with_reducible rfl)
              (try simp only [Act.put, List.setIfInBounds_toArray, List.set_cons_succ, List.set_cons_zero])
              refine wpE_take (i := 5) (oi := { dst := some 129, op := Go.Op.move (Go.Operand.tmp 14), type := 3, pos := "outright.go:61", after := #[], guard := none }) (v := ?_) rfl (by kernel_rfl) (fun _ _ _ h => h) (Or.inl ⟨by rfl, fun W hW => ?_⟩) hS ?_
              rotate_left
              · obtain ⟨hw1, hw2⟩ := hW; go_simp; (try go_bits); (try rw [if_pos (by omega)]); (try with_reducible rfl)
              (try simp only [Act.put, List.setIfInBounds_toArray, List.set_cons_succ, List.set_cons_zero])
              refine wpE_take (i := 6) (oi := { dst := some 130, op := Go.Op.indexAddr 49 (Go.Operand.tmp 128) (Go.Operand.tmp 129), type := 0, pos := "outright.go:61", after := #[{ on := 4, ground := Go.Ground.data }, { on := 5, ground := Go.Ground.data }], guard := none }) (v := ?_) rfl (by kernel_rfl) (fun _ _ _ h => h) (Or.inl ⟨by rfl, fun W hW => ?_⟩) hS ?_
              rotate_left
              · obtain ⟨hw1, hw2⟩ := hW; go_simp; (try go_bits); (try rw [if_pos (by omega)]); (try with_reducible rfl)
              (try simp only [Act.put, List.setIfInBounds_toArray, List.set_cons_succ, List.set_cons_zero])
              refine wpE_take (i := 7) (oi := { dst := some 131, op := Go.Op.fieldAddr 54 (Go.Operand.tmp 130) 5, type := 0, pos := "outright.go:61", after := #[{ on := 6, ground := Go.Ground.data }], guard := none }) (v := ?_) rfl (by kernel_rfl) (fun _ _ _ h => h) (Or.inl ⟨by rfl, fun W hW => ?_⟩) hS ?_
              rotate_left
              · obtain ⟨hw1, hw2⟩ := hW; go_simp; (try go_bits); (try rw [if_pos (by omega)]); (try with_reducible rfl)
              (try simp only [Act.put, List.setIfInBounds_toArray, List.set_cons_succ, List.set_cons_zero])
              refine wpE_take (i := 8) (oi := { dst := some 132, op := Go.Op.load 4 (Go.Operand.tmp 131), type := 4, pos := "outright.go:61", after := #[{ on := 7, ground := Go.Ground.data }], guard := none }) (v := ?_) rfl (by kernel_rfl) (fun _ _ _ h => h) (Or.inl ⟨by rfl, fun W hW => ?_⟩) hS ?_
              rotate_left
              · obtain ⟨hw1, hw2⟩ := hW; go_simp; (try go_bits); (try rw [if_pos (by omega)]); (try with_reducible rfl)
              (try simp only [Act.put, List.setIfInBounds_toArray, List.set_cons_succ, List.set_cons_zero])
              refine wpE_only (i := 9) (oi := { dst := some 133, op := Go.Op.call { callee := Go.Callee.value (Go.Operand.func 19), args := #[Go.Operand.tmp 125, Go.Operand.tmp 126, Go.Operand.tmp 127, Go.Operand.const (Go.Value.int Go.IntKind.i64 8), Go.Operand.tmp 132], argTypes := #[24, 3, 22, 3, 4] }, type := 51, pos := "outright.go:61", after := #[{ on := 1, ground := Go.Ground.data }, { on := 2, ground := Go.Ground.data }, { on := 3, ground := Go.Ground.data }, { on := 8, ground := Go.Ground.data }], guard := none }) rfl (by kernel_rfl) (by rfl) (fun K hK => ?_)
              go_simp; refine HA.out.mono ?_; rintro e w8 ⟨rfl, own8, s8, l8, hB8, hSo8, hrt8, hrd8⟩
              have hU8 := (HU.out.1.trans' hB8.upd (fun _ _ e => e))
              have hS := And.intro hB8.cell.1 ((HL.out.1.upd hU8).c5 HG.out)
              have hA := hB8.drew.good HU.out.2 hSo8 hrt8 hrd8 (d + 1) (by omega) HRD.out.2 a0 ha0l xw
              rw [show ((a0 * 8 : Nat) : Int) = (a0 : Int) * 8 from by omega, show ((d + 1 : Nat) : Int) = (d : Int) + 1 from by omega] at hA
              have HA2 := Lib.hid hA
              have HY := Lib.hid (And.intro hS.1 hS.2)
              clear HA hB8 hU8 hA hSo8 hrt8 hrd8
              refine hK _ _ hS ?_; clear hK K
              (try simp only [Act.put, List.setIfInBounds_toArray, List.set_cons_succ, List.set_cons_zero])
              refine wpE_take (i := 10) (oi := { dst := some 123, op := Go.Op.move (Go.Operand.tmp 133), type := 51, pos := "outright.go:61", after := #[{ on := 9, ground := Go.Ground.data }], guard := none }) (v := ?_) rfl (by kernel_rfl) (fun _ _ _ h => h) (Or.inl ⟨by rfl, fun W hW => ?_⟩) hS ?_
              rotate_left
              · obtain ⟨hw1, hw2⟩ := hW; go_simp; (try go_bits); (try rw [if_pos (by omega)]); (try with_reducible rfl)
              (try simp only [Act.put, List.setIfInBounds_toArray, List.set_cons_succ, List.set_cons_zero])
              refine wpE_take (i := 11) (oi := { dst := some 134, op := Go.Op.extract (Go.Operand.tmp 123) 0, type := 22, pos := "outright.go:61", after := #[{ on := 10, ground := Go.Ground.data }], guard := none }) (v := ?_) rfl (by kernel_rfl) (fun _ _ _ h => h) (Or.inl ⟨by rfl, fun W hW => ?_⟩) hS ?_
              rotate_left
              · obtain ⟨hw1, hw2⟩ := hW; go_simp; (try go_bits); (try rw [if_pos (by omega)]); (try with_reducible rfl)
              (try simp only [Act.put, List.setIfInBounds_toArray, List.set_cons_succ, List.set_cons_zero])
              refine wpE_take (i := 12) (oi := { dst := some 135, op := Go.Op.extract (Go.Operand.tmp 123) 1, type := 4, pos := "outright.go:61", after := #[{ on := 10, ground := Go.Ground.data }, { on := 13, ground := Go.Ground.gcOnly Go.Departure.lateStores }], guard := none }) (v := ?_) rfl (by kernel_rfl) (fun _ _ _ h => h) (Or.inl ⟨by rfl, fun W hW => ?_⟩) hS ?_
              rotate_left
              · obtain ⟨hw1, hw2⟩ := hW; go_simp; (try go_bits); (try rw [if_pos (by omega)]); (try with_reducible rfl)
              (try simp only [Act.put, List.setIfInBounds_toArray, List.set_cons_succ, List.set_cons_zero])
              refine wpE_only (i := 13) (oi := { dst := some 16, op := Go.Op.assign (Go.Operand.tmp 134), type := 22, pos := "outright.go:61", after := #[{ on := 11, ground := Go.Ground.data }, { on := 9, ground := Go.Ground.chain }, { on := 0, ground := Go.Ground.phase }, { on := 1, ground := Go.Ground.phase }, { on := 2, ground := Go.Ground.phase }, { on := 3, ground := Go.Ground.phase }, { on := 4, ground := Go.Ground.phase }, { on := 5, ground := Go.Ground.phase }, { on := 6, ground := Go.Ground.phase }, { on := 7, ground := Go.Ground.phase }, { on := 8, ground := Go.Ground.phase }, { on := 9, ground := Go.Ground.phase }, { on := 10, ground := Go.Ground.phase }, { on := 11, ground := Go.Ground.phase }, { on := 12, ground := Go.Ground.textOnly Go.Departure.lateStores }], guard := none }) rfl (by kernel_rfl) (by rfl) (fun K hK => ?_)
              go_simp; (try go_bits); refine hK _ _ hS ?_; clear hK K
              (try simp only [Act.put, List.setIfInBounds_toArray, List.set_cons_succ, List.set_cons_zero])
              refine wpE_last (oi := { dst := some 17, op := Go.Op.assign (Go.Operand.tmp 135), type := 4, pos := "outright.go:61", after := #[{ on := 12, ground := Go.Ground.data }, { on := 13, ground := Go.Ground.chain }, { on := 0, ground := Go.Ground.phase }, { on := 1, ground := Go.Ground.phase }, { on := 2, ground := Go.Ground.phase }, { on := 3, ground := Go.Ground.phase }, { on := 4, ground := Go.Ground.phase }, { on := 5, ground := Go.Ground.phase }, { on := 6, ground := Go.Ground.phase }, { on := 7, ground := Go.Ground.phase }, { on := 8, ground := Go.Ground.phase }, { on := 9, ground := Go.Ground.phase }, { on := 10, ground := Go.Ground.phase }, { on := 11, ground := Go.Ground.phase }, { on := 12, ground := Go.Ground.phase }, { on := 13, ground := Go.Ground.phase }], guard := none }) rfl (by kernel_rfl) (by kernel_rfl) (by rfl) (fun K hK => ?_)
              go_simp; (try go_bits); refine hK _ _ ?_; clear hK K
              clear hS c5 x0 xl
              have y0 := HY.out.1
              have y5 := HY.out.2
              simp only [] at y5
              go_wp2_with fail
              refine wpE_region (S := fun (W' : World) => W'.cell? ⟨xo, 0, none⟩ = some (.pointer (some ⟨p, 0, none⟩)) ∧ W'.cell? ⟨g, o + j * 8 + 5, none⟩ = some (.bool xw)) (s := 15) (by kernel_rfl) ?_
              have hS : (fun (W' : World) => W'.cell? ⟨xo, 0, none⟩ = some (.pointer (some ⟨p, 0, none⟩)) ∧ W'.cell? ⟨g, o + j * 8 + 5, none⟩ = some (.bool xw)) _ := ⟨y0, y5⟩
              refine wpE_take (i := 0) (oi := { dst := some 137, op := Go.Op.fieldAddr 31 (Go.Operand.tmp 7) 0, type := 0, pos := "outright.go:62", after := #[], guard := none }) (v := ?_) rfl (by kernel_rfl) (fun _ _ _ h => h) (Or.inl ⟨by rfl, fun W hW => ?_⟩) hS ?_
              rotate_left
              · obtain ⟨hw1, hw2⟩ := hW; go_simp; (try go_bits); (try rw [if_pos (by omega)]); (try with_reducible rfl)
              (try simp only [Act.put, List.setIfInBounds_toArray, List.set_cons_succ, List.set_cons_zero])
              refine wpE_take (i := 1) (oi := { dst := some 138, op := Go.Op.load 24 (Go.Operand.tmp 137), type := 24, pos := "outright.go:62", after := #[{ on := 0, ground := Go.Ground.data }], guard := none }) (v := ?_) rfl (by kernel_rfl) (fun _ _ _ h => h) (Or.inl ⟨by rfl, fun W hW => ?_⟩) hS ?_
              rotate_left
              · obtain ⟨hw1, hw2⟩ := hW; go_simp; (try go_bits); (try rw [if_pos (by omega)]); (try with_reducible rfl)
              (try simp only [Act.put, List.setIfInBounds_toArray, List.set_cons_succ, List.set_cons_zero])
              refine wpE_take (i := 2) (oi := { dst := some 139, op := Go.Op.move (Go.Operand.tmp 9), type := 3, pos := "outright.go:62", after := #[], guard := none }) (v := ?_) rfl (by kernel_rfl) (fun _ _ _ h => h) (Or.inl ⟨by rfl, fun W hW => ?_⟩) hS ?_
              rotate_left
              · obtain ⟨hw1, hw2⟩ := hW; go_simp; (try go_bits); (try rw [if_pos (by omega)]); (try with_reducible rfl)
              (try simp only [Act.put, List.setIfInBounds_toArray, List.set_cons_succ, List.set_cons_zero])
              refine wpE_take (i := 3) (oi := { dst := some 140, op := Go.Op.binOp Go.BinOp.add 3 (Go.Operand.tmp 139) (Go.Operand.const (Go.Value.int Go.IntKind.i64 1)) 3, type := 3, pos := "outright.go:62", after := #[{ on := 2, ground := Go.Ground.data }], guard := none }) (v := ?_) rfl (by kernel_rfl) (fun _ _ _ h => h) (Or.inl ⟨by rfl, fun W hW => ?_⟩) hS ?_
              rotate_left
              · obtain ⟨hw1, hw2⟩ := hW; go_simp; (try go_bits); (try rw [if_pos (by omega)]); (try with_reducible rfl)
              (try simp only [Act.put, List.setIfInBounds_toArray, List.set_cons_succ, List.set_cons_zero])
              refine wpE_take (i := 4) (oi := { dst := some 141, op := Go.Op.move (Go.Operand.tmp 15), type := 22, pos := "outright.go:62", after := #[], guard := none }) (v := ?_) rfl (by kernel_rfl) (fun _ _ _ h => h) (Or.inl ⟨by rfl, fun W hW => ?_⟩) hS ?_
              rotate_left
              · obtain ⟨hw1, hw2⟩ := hW; go_simp; (try go_bits); (try rw [if_pos (by omega)]); (try with_reducible rfl)
              (try simp only [Act.put, List.setIfInBounds_toArray, List.set_cons_succ, List.set_cons_zero])
              refine wpE_take (i := 5) (oi := { dst := some 142, op := Go.Op.move (Go.Operand.tmp 0), type := 49, pos := "outright.go:62", after := #[], guard := none }) (v := ?_) rfl (by kernel_rfl) (fun _ _ _ h => h) (Or.inl ⟨by rfl, fun W hW => ?_⟩) hS ?_
              rotate_left
              · obtain ⟨hw1, hw2⟩ := hW; go_simp; (try go_bits); (try rw [if_pos (by omega)]); (try with_reducible rfl)
              (try simp only [Act.put, List.setIfInBounds_toArray, List.set_cons_succ, List.set_cons_zero])
              refine wpE_take (i := 6) (oi := { dst := some 143, op := Go.Op.move (Go.Operand.tmp 14), type := 3, pos := "outright.go:62", after := #[], guard := none }) (v := ?_) rfl (by kernel_rfl) (fun _ _ _ h => h) (Or.inl ⟨by rfl, fun W hW => ?_⟩) hS ?_
              rotate_left
              · obtain ⟨hw1, hw2⟩ := hW; go_simp; (try go_bits); (try rw [if_pos (by omega)]); (try with_reducible rfl)
              (try simp only [Act.put, List.setIfInBounds_toArray, List.set_cons_succ, List.set_cons_zero])
              refine wpE_take (i := 7) (oi := { dst := some 144, op := Go.Op.indexAddr 49 (Go.Operand.tmp 142) (Go.Operand.tmp 143), type := 0, pos := "outright.go:62", after := #[{ on := 5, ground := Go.Ground.data }, { on := 6, ground := Go.Ground.data }], guard := none }) (v := ?_) rfl (by kernel_rfl) (fun _ _ _ h => h) (Or.inl ⟨by rfl, fun W hW => ?_⟩) hS ?_
              rotate_left
              · obtain ⟨hw1, hw2⟩ := hW; go_simp; (try go_bits); (try rw [if_pos (by omega)]); (try with_reducible rfl)
              (try simp only [Act.put, List.setIfInBounds_toArray, List.set_cons_succ, List.set_cons_zero])
              refine wpE_take (i := 8) (oi := { dst := some 145, op := Go.Op.fieldAddr 54 (Go.Operand.tmp 144) 5, type := 0, pos := "outright.go:62", after := #[{ on := 7, ground := Go.Ground.data }], guard := none }) (v := ?_) rfl (by kernel_rfl) (fun _ _ _ h => h) (Or.inl ⟨by rfl, fun W hW => ?_⟩) hS ?_
              rotate_left
              · obtain ⟨hw1, hw2⟩ := hW; go_simp; (try go_bits); (try rw [if_pos (by omega)]); (try with_reducible rfl)
              (try simp only [Act.put, List.setIfInBounds_toArray, List.set_cons_succ, List.set_cons_zero])
              refine wpE_take (i := 9) (oi := { dst := some 146, op := Go.Op.load 4 (Go.Operand.tmp 145), type := 4, pos := "outright.go:62", after := #[{ on := 8, ground := Go.Ground.data }], guard := none }) (v := ?_) rfl (by kernel_rfl) (fun _ _ _ h => h) (Or.inl ⟨by rfl, fun W hW => ?_⟩) hS ?_
              rotate_left
              · obtain ⟨hw1, hw2⟩ := hW; go_simp; (try go_bits); (try rw [if_pos (by omega)]); (try with_reducible rfl)
              (try simp only [Act.put, List.setIfInBounds_toArray, List.set_cons_succ, List.set_cons_zero])
              refine wpE_only (i := 10) (oi := { dst := some 147, op := Go.Op.call { callee := Go.Callee.value (Go.Operand.func 19), args := #[Go.Operand.tmp 138, Go.Operand.tmp 140, Go.Operand.tmp 141, Go.Operand.const (Go.Value.int Go.IntKind.i64 8), Go.Operand.tmp 146], argTypes := #[24, 3, 22, 3, 4] }, type := 51, pos := "outright.go:62", after := #[{ on := 1, ground := Go.Ground.data }, { on := 3, ground := Go.Ground.data }, { on := 4, ground := Go.Ground.data }, { on := 9, ground := Go.Ground.data }], guard := none }) rfl (by kernel_rfl) (by rfl) (fun K hK => ?_)
              go_simp; refine HA2.out.mono ?_; rintro e w9 ⟨rfl, own9, s9, l9, hB9, h9⟩
              have hU9 := (HU.out.1.trans' hB9.upd (fun _ _ e => e))
              have hS := And.intro hB9.cell.1 ((HL.out.1.upd hU9).c5 HG.out)
              have H9 := Lib.hid (And.intro hB9 h9)
              clear HA2 hB9 h9 hU9
              refine hK _ _ hS ?_; clear hK K
              (try simp only [Act.put, List.setIfInBounds_toArray, List.set_cons_succ, List.set_cons_zero])
              refine wpE_take (i := 11) (oi := { dst := some 136, op := Go.Op.move (Go.Operand.tmp 147), type := 51, pos := "outright.go:62", after := #[{ on := 10, ground := Go.Ground.data }], guard := none }) (v := ?_) rfl (by kernel_rfl) (fun _ _ _ h => h) (Or.inl ⟨by rfl, fun W hW => ?_⟩) hS ?_
              rotate_left
              · obtain ⟨hw1, hw2⟩ := hW; go_simp; (try go_bits); (try rw [if_pos (by omega)]); (try with_reducible rfl)
              (try simp only [Act.put, List.setIfInBounds_toArray, List.set_cons_succ, List.set_cons_zero])
              refine wpE_take (i := 12) (oi := { dst := some 148, op := Go.Op.extract (Go.Operand.tmp 136) 0, type := 22, pos := "outright.go:62", after := #[{ on := 11, ground := Go.Ground.data }], guard := none }) (v := ?_) rfl (by kernel_rfl) (fun _ _ _ h => h) (Or.inl ⟨by rfl, fun W hW => ?_⟩) hS ?_
              rotate_left
              · obtain ⟨hw1, hw2⟩ := hW; go_simp; (try go_bits); (try rw [if_pos (by omega)]); (try with_reducible rfl)
              (try simp only [Act.put, List.setIfInBounds_toArray, List.set_cons_succ, List.set_cons_zero])
              refine wpE_take (i := 13) (oi := { dst := some 149, op := Go.Op.extract (Go.Operand.tmp 136) 1, type := 4, pos := "outright.go:62", after := #[{ on := 11, ground := Go.Ground.data }, { on := 14, ground := Go.Ground.gcOnly Go.Departure.lateStores }], guard := none }) (v := ?_) rfl (by kernel_rfl) (fun _ _ _ h => h) (Or.inl ⟨by rfl, fun W hW => ?_⟩) hS ?_
              rotate_left
              · obtain ⟨hw1, hw2⟩ := hW; go_simp; (try go_bits); (try rw [if_pos (by omega)]); (try with_reducible rfl)
              (try simp only [Act.put, List.setIfInBounds_toArray, List.set_cons_succ, List.set_cons_zero])
              refine wpE_only (i := 14) (oi := { dst := some 18, op := Go.Op.assign (Go.Operand.tmp 148), type := 22, pos := "outright.go:62", after := #[{ on := 12, ground := Go.Ground.data }, { on := 10, ground := Go.Ground.chain }, { on := 0, ground := Go.Ground.phase }, { on := 1, ground := Go.Ground.phase }, { on := 2, ground := Go.Ground.phase }, { on := 3, ground := Go.Ground.phase }, { on := 4, ground := Go.Ground.phase }, { on := 5, ground := Go.Ground.phase }, { on := 6, ground := Go.Ground.phase }, { on := 7, ground := Go.Ground.phase }, { on := 8, ground := Go.Ground.phase }, { on := 9, ground := Go.Ground.phase }, { on := 10, ground := Go.Ground.phase }, { on := 11, ground := Go.Ground.phase }, { on := 12, ground := Go.Ground.phase }, { on := 13, ground := Go.Ground.textOnly Go.Departure.lateStores }], guard := none }) rfl (by kernel_rfl) (by rfl) (fun K hK => ?_)
              go_simp; (try go_bits); refine hK _ _ hS ?_; clear hK K
              (try simp only [Act.put, List.setIfInBounds_toArray, List.set_cons_succ, List.set_cons_zero])
              refine wpE_last (oi := { dst := some 19, op := Go.Op.assign (Go.Operand.tmp 149), type := 4, pos := "outright.go:62", after := #[{ on := 13, ground := Go.Ground.data }, { on := 14, ground := Go.Ground.chain }, { on := 0, ground := Go.Ground.phase }, { on := 1, ground := Go.Ground.phase }, { on := 2, ground := Go.Ground.phase }, { on := 3, ground := Go.Ground.phase }, { on := 4, ground := Go.Ground.phase }, { on := 5, ground := Go.Ground.phase }, { on := 6, ground := Go.Ground.phase }, { on := 7, ground := Go.Ground.phase }, { on := 8, ground := Go.Ground.phase }, { on := 9, ground := Go.Ground.phase }, { on := 10, ground := Go.Ground.phase }, { on := 11, ground := Go.Ground.phase }, { on := 12, ground := Go.Ground.phase }, { on := 13, ground := Go.Ground.phase }, { on := 14, ground := Go.Ground.phase }], guard := none }) rfl (by kernel_rfl) (by kernel_rfl) (by rfl) (fun K hK => ?_)
              go_simp; (try go_bits); refine hK _ _ ?_; clear hK K
              clear hS
              go_wp2
              exact ⟨⟨j + 1, by omega, by go_num, own9, s9, l9, H9.out⟩, by simp [intOf]; omega⟩
            · obtain rfl : j = L.length := by omega
              have hRo := io_Root hB.a.u (d : Int)
              rw [show rootP s7 (d : Int) = 0 from by unfold rootP; rw [if_pos (by omega), hrt]; exact HRD.out.1, show ((0 : Nat) : Int) = 0 from rfl] at hRo
              have HRo := Lib.hid hRo
              have HUU := Lib.hid (HU.out.1.trans' hB.upd (fun _ _ e => e))
              clear hB hSo hrt hrd hRo HLo HL HU
              go_wp2_with fail
              ((with_reducible refine HRo.out.mono ?_); rintro e wz ⟨rfl, rfl⟩)
              clear HRo
              go_wp2_with fail
              ((with_reducible refine (awake07 _).mono ?_); rintro e w13 ⟨rfl, hU13⟩)
              have HE := Lib.hid (HUU.out.trans' hU13 (fun _ _ e => e))
              clear hU13 HUU
              go_wp2
              go_ret
              exact ⟨rfl, HE.out⟩
end Go.Proofs.Ytlgcplekcmocbaa
