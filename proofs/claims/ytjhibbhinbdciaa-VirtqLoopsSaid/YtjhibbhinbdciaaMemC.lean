import Derived.Test.YtjhibbhinbdciaaMref5
import Derived.Test.YtjhibbhinbdciaaPlace
/- Memory with cells in it (citadellaw00.Memory). -/
namespace Go.Proofs.Ytjhibbhinbdciaa
set_option linter.unusedVariables false
set_option linter.unusedSimpArgs false
open Go.RowKit
set_option maxRecDepth 100000

/-- a slice of cells: where, what -/
def CellsAt (w : World) (v : Value) (cs : List (Int × Nat)) : Prop := ∃ A cap, v = .slice A cs.length cap ∧ (0 < cs.length → ∃ g o, A = some ⟨g, o, none⟩ ∧ g < w.heap.size ∧ ∀ k x, cs[k]? = some x → w.cell? ⟨g, o + k * 2, none⟩ = some (.int .i64 x.1) ∧ w.cell? ⟨g, o + k * 2 + 1, none⟩ = some (.int .u64 (x.2 : Int)))
def cellM (n : Nat) (m : Nat → Int) (x : Int × Nat) : Nat → Int := put m (8 * (x.1 % (512 * n : Nat)).toNat) 8 x.2
def cellsM (n : Nat) (m : Nat → Int) (cs : List (Int × Nat)) : Nat → Int := cs.foldl (cellM n) m
theorem cellsM_snoc (n : Nat) (m : Nat → Int) (cs : List (Int × Nat)) (x : Int × Nat) : cellsM n m (cs ++ [x]) = cellM n (cellsM n m cs) x := by unfold cellsM; rw [List.foldl_append]; rfl
theorem cell_wr (n : Nat) (hn : 1 ≤ n) (m : Nat → Int) (x : Int × Nat) (b : Int) (hb : b = 8 * (x.1 % (512 * (n : Int)))) : wrR 0 n m b 8 (x.2 : Int) = cellM n m x ∧ 0 ≤ b ∧ b < 4096 * n := by
  have h0 := Int.emod_nonneg x.1 (show (512 * (n : Int)) ≠ 0 by omega)
  have h1 := Int.emod_lt_of_pos x.1 (show (0 : Int) < (512 * (n : Int)) by omega)
  unfold cellM
  rw [show ((512 * n : Nat) : Int) = 512 * (n : Int) from by omega]
  generalize hq : x.1 % (512 * (n : Int)) = q at *
  subst hb
  have hh : hasR 0 n (8 * q) 8 = true := hasR_iff.2 ⟨by omega, by omega, by omega, by omega⟩
  unfold wrR
  rw [hh, show okS 8 = true from rfl]
  refine ⟨?_, by omega, by omega⟩
  simp only [Bool.and_self, if_true]
  rw [show (8 * q - ((0 : Nat) : Int)).toNat = 8 * q.toNat from by omega]; rfl
set_option maxHeartbeats 4000000 in
theorem law_MemoryC0 (n : Nat) (hn : 1 ≤ n) (hn2 : n ≤ 1024) (own : Nat → Nat) (c1 c2 : Nat) (hc : c1 ≠ c2) (w : World) (hfr : ∀ b, b < w.heap.size → own b ≠ c1 ∧ own b ≠ c2) (v : Value) (cs : List (Int × Nat)) (hv : CellsAt w v cs) (hlen : cs.length ≤ 9223372036854775807) (hb : ∀ x ∈ cs, -9223372036854775808 ≤ x.1 ∧ x.1 ≤ 9223372036854775807 ∧ x.2 < 18446744073709551616) :
    Calls Try.prog 10 #[.int .u64 0, .int .i64 (n : Int), v] w fun e w' => ∃ p1 p2 own', e = .returned (.tuple #[.agg #[.pointer (some ⟨p1, 0, none⟩), .pointer (some ⟨p2, 0, none⟩)], .bool true]) ∧ Step (fun _ => False) own w own' w' ∧
      MemAt ramK own' c1 w' p1 0 n (cellsM n (fun _ => 0) cs) ∧ MemAt refK own' c2 w' p2 0 n (cellsM n (fun _ => 0) cs) := by
  obtain ⟨A, cap, rfl, hrow⟩ := hv
  have HV := Lib.hid (And.intro hrow hb)
  have HFR := Lib.hid hfr
  clear hrow hb hfr
  have hS0 : Step (fun _ => False) own w (ext own w (c1 + c2 + 1)) (w.alloc (.cells #[.pointer none, .pointer none] 26)) := ⟨(Upd.refl _ _).alloc _, fun b hb => ext_old _ _ _ hb⟩
  have hB0 := Blk.new w 26 #[.pointer none, .pointer none]
  have ho0 : ext own w (c1 + c2 + 1) w.heap.size = c1 + c2 + 1 := ext_new _ _ _ (Nat.le_refl _)
  have H0 := Lib.hid (And.intro hS0 (And.intro hB0 ho0))
  clear hS0 hB0 ho0
  go_enter Try.func10, Try.ntmps10
  go_wp2_with fail
  refine (ram_New 0 n (by omega) (by omega) hn hn2 (ext own w (c1 + c2 + 1)) c1 _).mono ?_
  rintro e w1 ⟨p1, own1, rfl, hS1, hM1, hp1⟩
  have hb1 := hS1.blk H0.out.2.1 H0.out.2.2 (fun h => h)
  have H1 := Lib.hid (And.intro (H0.out.1.trans hS1) (And.intro hM1 hb1))
  clear hS1 hM1 hp1 hb1
  go_wp2_with fail
  refine (mref_New 0 n (by omega) (by omega) hn hn2 own1 c2 _).mono ?_
  rintro e w2 ⟨p2, own2, rfl, hS2, hM2, hp2⟩
  have hb2 := hS2.blk H1.out.2.2.1 H1.out.2.2.2 (fun h => h)
  have hM1 := H1.out.2.1.step hS2 (fun h => h)
  have hS := H1.out.1.trans hS2
  have H2 := Lib.hid (And.intro hS (And.intro hM1 (And.intro hM2 hb2)))
  have hlt := hb2.1.lt
  clear hS2 hM2 hp2 hb2 hM1 hS H1 H0
  have hl0 : w.heap.size ≤ w2.heap.size := H2.out.1.upd.size
  generalize hxb : w.heap.size = xb at *
  go_wp2
  generalize hxt : w2.heap.size = xt at *
  go_loopw [13] (fun i wr => ∃ (k : Nat), k ≤ cs.length ∧ i = .int .i64 (k : Int) ∧ Hid (∃ own3, Step (fun _ => False) own w own3 wr ∧ MemAt ramK own3 c1 wr p1 0 n (cellsM n (fun _ => 0) (cs.take k)) ∧ MemAt refK own3 c2 wr p2 0 n (cellsM n (fun _ => 0) (cs.take k)) ∧ Blk wr xb 26 #[.pointer none, .pointer none] ∧ own3 xb = c1 + c2 + 1 ∧ Blk wr xt 26 #[.pointer (some ⟨p1, 0, none⟩), .pointer (some ⟨p2, 0, none⟩)] ∧ own3 xt = c1 + c2 + 1)) (fun i _ => cs.length - (intOf i).toNat)
  case atStart =>
    have hst : Step (fun _ => False) own2 w2 (ext own2 w2 (c1 + c2 + 1)) (w2.alloc (.cells #[.pointer (some ⟨p1, 0, none⟩), .pointer (some ⟨p2, 0, none⟩)] 26)) := ⟨(Upd.refl _ _).alloc _, fun b hb => ext_old _ _ _ hb⟩
    have hS := H2.out.1.trans hst
    refine ⟨0, by omega, rfl, ext own2 w2 (c1 + c2 + 1), hS, H2.out.2.1.step hst (fun h => h), H2.out.2.2.1.step hst (fun h => h), H2.out.2.2.2.1.alloc _, by rw [ext_old own2 w2 _ H2.out.2.2.2.1.lt]; exact H2.out.2.2.2.2, ?_, by rw [← hxt]; exact ext_new _ _ _ (Nat.le_refl _)⟩
    have := Blk.new w2 26 #[.pointer (some ⟨p1, 0, none⟩), .pointer (some ⟨p2, 0, none⟩)]
    rwa [hxt] at this
  case round =>
    obtain ⟨k, hk, rfl, HX⟩ := hrel
    obtain ⟨own3, hS3, hMa, hMb, hbb, hob, hbt, hot⟩ := HX.out
    have hU3 := hS3.upd
    by_cases hlt' : k < cs.length
    · obtain ⟨g, o, rfl, hg, hcell⟩ := HV.out.1 (by omega)
      have hget : cs[k]? = some cs[k] := List.getElem?_eq_getElem hlt'
      have hmem : cs[k] ∈ cs := List.getElem_mem hlt'
      have htk : cs.take (k + 1) = cs.take k ++ [cs[k]] := by rw [List.take_add_one, hget]; rfl
      obtain ⟨b1, b2, b3⟩ := HV.out.2 _ hmem
      obtain ⟨q1, q2⟩ := hcell _ _ hget
      generalize cs[k] = x at *
      have c1' := (hU3.cell (p := ⟨g, o + k * 2, none⟩) (by show g < w.heap.size; omega) (fun h => h)).trans q1
      have c2' := (hU3.cell (p := ⟨g, o + k * 2 + 1, none⟩) (by show g < w.heap.size; omega) (fun h => h)).trans q2
      have y0 := hbt.cell 0
      have y1 := hbt.cell 1
      simp only [List.getElem?_toArray, List.getElem?_cons_zero, List.getElem?_cons_succ] at y0 y1
      have hlti : (k : Int) < (cs.length : Int) := by omega
      obtain ⟨e1, e2, e3⟩ := cell_wr n hn (cellsM n (fun _ => 0) (cs.take k)) x _ rfl
      rw [← cellsM_snoc, ← htk] at e1
      have hHP := place_calls x.1 (512 * (n : Int)) wr.drew b1 b2 (by omega) (by omega)
      have hstd : Step (fun _ => False) own3 wr own3 wr.drew := (Step.refl _ _ _).drew
      have hHW := two_Write hc (hMa.step hstd (fun h => h)) (hMb.step hstd (fun h => h)) (8 * (x.1 % (512 * (n : Int)))) 8 (x.2 : Int) (by omega) (by omega) (by decide) (by decide) (by omega) (by omega)
      have H3 := Lib.hid (And.intro (hS3.trans hstd) (And.intro (hstd.blk hbb hob (fun h => h)) (hstd.blk hbt hot (fun h => h))))
      have hlb := hbt.lt
      obtain ⟨q, hq⟩ : ∃ q, x.1 % (512 * (n : Int)) = q := ⟨_, rfl⟩
      rw [hq] at e1 e2 e3 hHP hHW
      have HP := Lib.hid hHP
      have HW := Lib.hid hHW
      have HE := Lib.hid e1
      have e4 : 0 ≤ q := by omega
      have e5 : q < 524288 := by omega
      clear hMa hMb hU3 hS3 hbb hob hbt hot q1 q2 hcell hget hmem htk HX e1 hHP hHW hq hstd
      go_wp2_with fail
      refine wpE_region (S := fun (W' : World) => W'.cell? ⟨g, o + k * 2, none⟩ = some (.int .i64 x.1) ∧ W'.cell? ⟨g, o + k * 2 + 1, none⟩ = some (.int .u64 (x.2 : Int)) ∧ W'.cell? ⟨xt, 0, none⟩ = some (.pointer (some ⟨p1, 0, none⟩)) ∧ W'.cell? ⟨xt, 1, none⟩ = some (.pointer (some ⟨p2, 0, none⟩))) (s := 18) (by kernel_rfl) ?_
      have hS : (fun (W' : World) => W'.cell? ⟨g, o + k * 2, none⟩ = some (.int .i64 x.1) ∧ W'.cell? ⟨g, o + k * 2 + 1, none⟩ = some (.int .u64 (x.2 : Int)) ∧ W'.cell? ⟨xt, 0, none⟩ = some (.pointer (some ⟨p1, 0, none⟩)) ∧ W'.cell? ⟨xt, 1, none⟩ = some (.pointer (some ⟨p2, 0, none⟩))) _ := ⟨c1', c2', y0, y1⟩
      refine wpE_take (i := 0) (oi := { dst := some 46, op := Go.Op.load 26 (Go.Operand.tmp 12), type := 26, pos := "law.go:144", after := #[], guard := none }) (v := ?_) rfl (by kernel_rfl) (fun _ _ _ h => h) (Or.inl ⟨by rfl, fun W hW => ?_⟩) hS ?_
      rotate_left
      · obtain ⟨hw1, hw2, hw3, hw4⟩ := hW; go_simp; (try go_bits); (try rw [if_pos (by omega)]); (try with_reducible rfl)
      (try simp only [Act.put, List.setIfInBounds_toArray, List.set_cons_succ, List.set_cons_zero])
      refine wpE_take (i := 1) (oi := { dst := some 47, op := Go.Op.move (Go.Operand.tmp 0), type := 29, pos := "law.go:144", after := #[], guard := none }) (v := ?_) rfl (by kernel_rfl) (fun _ _ _ h => h) (Or.inl ⟨by rfl, fun W hW => ?_⟩) hS ?_
      rotate_left
      · obtain ⟨hw1, hw2, hw3, hw4⟩ := hW; go_simp; (try go_bits); (try rw [if_pos (by omega)]); (try with_reducible rfl)
      (try simp only [Act.put, List.setIfInBounds_toArray, List.set_cons_succ, List.set_cons_zero])
      refine wpE_take (i := 2) (oi := { dst := some 48, op := Go.Op.move (Go.Operand.tmp 2), type := 73, pos := "law.go:144", after := #[], guard := none }) (v := ?_) rfl (by kernel_rfl) (fun _ _ _ h => h) (Or.inl ⟨by rfl, fun W hW => ?_⟩) hS ?_
      rotate_left
      · obtain ⟨hw1, hw2, hw3, hw4⟩ := hW; go_simp; (try go_bits); (try rw [if_pos (by omega)]); (try with_reducible rfl)
      (try simp only [Act.put, List.setIfInBounds_toArray, List.set_cons_succ, List.set_cons_zero])
      refine wpE_take (i := 3) (oi := { dst := some 49, op := Go.Op.move (Go.Operand.tmp 13), type := 3, pos := "law.go:144", after := #[], guard := none }) (v := ?_) rfl (by kernel_rfl) (fun _ _ _ h => h) (Or.inl ⟨by rfl, fun W hW => ?_⟩) hS ?_
      rotate_left
      · obtain ⟨hw1, hw2, hw3, hw4⟩ := hW; go_simp; (try go_bits); (try rw [if_pos (by omega)]); (try with_reducible rfl)
      (try simp only [Act.put, List.setIfInBounds_toArray, List.set_cons_succ, List.set_cons_zero])
      refine wpE_take (i := 4) (oi := { dst := some 50, op := Go.Op.indexAddr 73 (Go.Operand.tmp 48) (Go.Operand.tmp 49), type := 0, pos := "law.go:144", after := #[{ on := 2, ground := Go.Ground.data }, { on := 3, ground := Go.Ground.data }], guard := none }) (v := ?_) rfl (by kernel_rfl) (fun _ _ _ h => h) (Or.inl ⟨by rfl, fun W hW => ?_⟩) hS ?_
      rotate_left
      · obtain ⟨hw1, hw2, hw3, hw4⟩ := hW; go_simp; (try go_bits); (try rw [if_pos (by omega)]); (try with_reducible rfl)
      (try simp only [Act.put, List.setIfInBounds_toArray, List.set_cons_succ, List.set_cons_zero])
      refine wpE_take (i := 5) (oi := { dst := some 51, op := Go.Op.fieldAddr 79 (Go.Operand.tmp 50) 0, type := 0, pos := "law.go:144", after := #[{ on := 4, ground := Go.Ground.data }], guard := none }) (v := ?_) rfl (by kernel_rfl) (fun _ _ _ h => h) (Or.inl ⟨by rfl, fun W hW => ?_⟩) hS ?_
      rotate_left
      · obtain ⟨hw1, hw2, hw3, hw4⟩ := hW; go_simp; (try go_bits); (try rw [if_pos (by omega)]); (try with_reducible rfl)
      (try simp only [Act.put, List.setIfInBounds_toArray, List.set_cons_succ, List.set_cons_zero])
      refine wpE_take (i := 6) (oi := { dst := some 52, op := Go.Op.load 3 (Go.Operand.tmp 51), type := 3, pos := "law.go:144", after := #[{ on := 5, ground := Go.Ground.data }], guard := none }) (v := ?_) rfl (by kernel_rfl) (fun _ _ _ h => h) (Or.inl ⟨by rfl, fun W hW => ?_⟩) hS ?_
      rotate_left
      · obtain ⟨hw1, hw2, hw3, hw4⟩ := hW; go_simp; (try go_bits); (try rw [if_pos (by omega)]); (try with_reducible rfl)
      (try simp only [Act.put, List.setIfInBounds_toArray, List.set_cons_succ, List.set_cons_zero])
      refine wpE_take (i := 7) (oi := { dst := some 53, op := Go.Op.move (Go.Operand.tmp 1), type := 3, pos := "law.go:144", after := #[], guard := none }) (v := ?_) rfl (by kernel_rfl) (fun _ _ _ h => h) (Or.inl ⟨by rfl, fun W hW => ?_⟩) hS ?_
      rotate_left
      · obtain ⟨hw1, hw2, hw3, hw4⟩ := hW; go_simp; (try go_bits); (try rw [if_pos (by omega)]); (try with_reducible rfl)
      (try simp only [Act.put, List.setIfInBounds_toArray, List.set_cons_succ, List.set_cons_zero])
      refine wpE_take (i := 8) (oi := { dst := some 54, op := Go.Op.binOp Go.BinOp.mul 3 (Go.Operand.const (Go.Value.int Go.IntKind.i64 512)) (Go.Operand.tmp 53) 3, type := 3, pos := "law.go:144", after := #[{ on := 7, ground := Go.Ground.data }], guard := none }) (v := .int .i64 (512 * (n : Int))) rfl (by kernel_rfl) (fun _ _ _ h => h) (Or.inl ⟨by rfl, fun W hW => ?_⟩) hS ?_
      · obtain ⟨hw1, hw2, hw3, hw4⟩ := hW; go_simp; (try go_bits); (try rw [if_pos (by omega)]); (try trivial)
      (try simp only [Act.put, List.setIfInBounds_toArray, List.set_cons_succ, List.set_cons_zero])
      refine wpE_take (i := 13) (oi := { dst := some 59, op := Go.Op.move (Go.Operand.tmp 2), type := 73, pos := "law.go:144", after := #[], guard := none }) (v := ?_) rfl (by kernel_rfl) (fun _ _ _ h => h) (Or.inl ⟨by rfl, fun W hW => ?_⟩) hS ?_
      rotate_left
      · obtain ⟨hw1, hw2, hw3, hw4⟩ := hW; go_simp; (try go_bits); (try rw [if_pos (by omega)]); (try with_reducible rfl)
      (try simp only [Act.put, List.setIfInBounds_toArray, List.set_cons_succ, List.set_cons_zero])
      refine wpE_take (i := 14) (oi := { dst := some 60, op := Go.Op.move (Go.Operand.tmp 13), type := 3, pos := "law.go:144", after := #[], guard := none }) (v := ?_) rfl (by kernel_rfl) (fun _ _ _ h => h) (Or.inl ⟨by rfl, fun W hW => ?_⟩) hS ?_
      rotate_left
      · obtain ⟨hw1, hw2, hw3, hw4⟩ := hW; go_simp; (try go_bits); (try rw [if_pos (by omega)]); (try with_reducible rfl)
      (try simp only [Act.put, List.setIfInBounds_toArray, List.set_cons_succ, List.set_cons_zero])
      refine wpE_take (i := 15) (oi := { dst := some 61, op := Go.Op.indexAddr 73 (Go.Operand.tmp 59) (Go.Operand.tmp 60), type := 0, pos := "law.go:144", after := #[{ on := 13, ground := Go.Ground.data }, { on := 14, ground := Go.Ground.data }], guard := none }) (v := ?_) rfl (by kernel_rfl) (fun _ _ _ h => h) (Or.inl ⟨by rfl, fun W hW => ?_⟩) hS ?_
      rotate_left
      · obtain ⟨hw1, hw2, hw3, hw4⟩ := hW; go_simp; (try go_bits); (try rw [if_pos (by omega)]); (try with_reducible rfl)
      (try simp only [Act.put, List.setIfInBounds_toArray, List.set_cons_succ, List.set_cons_zero])
      refine wpE_take (i := 16) (oi := { dst := some 62, op := Go.Op.fieldAddr 79 (Go.Operand.tmp 61) 1, type := 0, pos := "law.go:144", after := #[{ on := 15, ground := Go.Ground.data }], guard := none }) (v := ?_) rfl (by kernel_rfl) (fun _ _ _ h => h) (Or.inl ⟨by rfl, fun W hW => ?_⟩) hS ?_
      rotate_left
      · obtain ⟨hw1, hw2, hw3, hw4⟩ := hW; go_simp; (try go_bits); (try rw [if_pos (by omega)]); (try with_reducible rfl)
      (try simp only [Act.put, List.setIfInBounds_toArray, List.set_cons_succ, List.set_cons_zero])
      refine wpE_take (i := 17) (oi := { dst := some 63, op := Go.Op.load 29 (Go.Operand.tmp 62), type := 29, pos := "law.go:144", after := #[{ on := 16, ground := Go.Ground.data }], guard := none }) (v := ?_) rfl (by kernel_rfl) (fun _ _ _ h => h) (Or.inl ⟨by rfl, fun W hW => ?_⟩) hS ?_
      rotate_left
      · obtain ⟨hw1, hw2, hw3, hw4⟩ := hW; go_simp; (try go_bits); (try rw [if_pos (by omega)]); (try with_reducible rfl)
      (try simp only [Act.put, List.setIfInBounds_toArray, List.set_cons_succ, List.set_cons_zero])
      refine wpE_only (i := 9) (oi := { dst := some 55, op := Go.Op.call { callee := Go.Callee.value (Go.Operand.func 12), args := #[Go.Operand.tmp 52, Go.Operand.tmp 54], argTypes := #[3, 3] }, type := 3, pos := "law.go:144", after := #[{ on := 6, ground := Go.Ground.data }, { on := 8, ground := Go.Ground.data }], guard := none }) rfl (by kernel_rfl) (by rfl) (fun K hK => ?_)
      go_simp; refine HP.out.mono ?_; rintro e wz ⟨rfl, rfl⟩; refine hK _ _ hS ?_; clear hK K
      (try simp only [Act.put, List.setIfInBounds_toArray, List.set_cons_succ, List.set_cons_zero])
      refine wpE_take (i := 10) (oi := { dst := some 56, op := Go.Op.convert 3 29 (Go.Operand.tmp 55), type := 29, pos := "law.go:144", after := #[{ on := 9, ground := Go.Ground.data }], guard := none }) (v := .int .u64 q) rfl (by kernel_rfl) (fun _ _ _ h => h) (Or.inl ⟨by rfl, fun W hW => ?_⟩) hS ?_
      · obtain ⟨hw1, hw2, hw3, hw4⟩ := hW; go_simp; (try go_bits); (try rw [if_pos (by omega)]); (try trivial)
      (try simp only [Act.put, List.setIfInBounds_toArray, List.set_cons_succ, List.set_cons_zero])
      refine wpE_take (i := 11) (oi := { dst := some 57, op := Go.Op.binOp Go.BinOp.mul 29 (Go.Operand.const (Go.Value.int Go.IntKind.u64 8)) (Go.Operand.tmp 56) 29, type := 29, pos := "law.go:144", after := #[{ on := 10, ground := Go.Ground.data }], guard := none }) (v := .int .u64 (8 * q)) rfl (by kernel_rfl) (fun _ _ _ h => h) (Or.inl ⟨by rfl, fun W hW => ?_⟩) hS ?_
      · obtain ⟨hw1, hw2, hw3, hw4⟩ := hW; go_simp; (try go_bits); (try rw [if_pos (by omega)]); (try trivial)
      (try simp only [Act.put, List.setIfInBounds_toArray, List.set_cons_succ, List.set_cons_zero])
      refine wpE_take (i := 12) (oi := { dst := some 58, op := Go.Op.binOp Go.BinOp.add 29 (Go.Operand.tmp 47) (Go.Operand.tmp 57) 29, type := 29, pos := "law.go:144", after := #[{ on := 1, ground := Go.Ground.data }, { on := 11, ground := Go.Ground.data }], guard := none }) (v := .int .u64 (8 * q)) rfl (by kernel_rfl) (fun _ _ _ h => h) (Or.inl ⟨by rfl, fun W hW => ?_⟩) hS ?_
      · obtain ⟨hw1, hw2, hw3, hw4⟩ := hW; go_simp; (try go_bits); (try rw [if_pos (by omega)]); (try trivial)
      (try simp only [Act.put, List.setIfInBounds_toArray, List.set_cons_succ, List.set_cons_zero])
      refine wpE_last (oi := { dst := some 64, op := Go.Op.call { callee := Go.Callee.value (Go.Operand.func 15), args := #[Go.Operand.tmp 46, Go.Operand.tmp 58, Go.Operand.const (Go.Value.int Go.IntKind.i64 8), Go.Operand.tmp 63], argTypes := #[26, 29, 3, 29] }, type := 0, pos := "law.go:144", after := #[{ on := 0, ground := Go.Ground.data }, { on := 12, ground := Go.Ground.data }, { on := 17, ground := Go.Ground.data }, { on := 9, ground := Go.Ground.chain }], guard := none }) rfl (by kernel_rfl) (by kernel_rfl) (by rfl) (fun K hK => ?_)
      go_simp
      refine HW.out.mono ?_; rintro e w3 ⟨rfl, own4, hS4, hA4, hB4⟩
      have hb4 := hS4.blk H3.out.2.1.1 H3.out.2.1.2 (by omega)
      have ht4 := hS4.blk H3.out.2.2.1 H3.out.2.2.2 (by omega)
      rw [HE.out] at hA4 hB4
      have hS5 : Step (fun _ => False) own w own4 w3 := ⟨H3.out.1.upd.trans' hS4.upd (fun i hi e => by rw [H3.out.1.old i hi] at e; have := HFR.out i (by omega); omega), fun b hb => (hS4.old b (Nat.lt_of_lt_of_le hb H3.out.1.upd.size)).trans (H3.out.1.old b hb)⟩
      have H4 := Lib.hid (show ∃ own3, Step (fun _ => False) own w own3 w3 ∧ MemAt ramK own3 c1 w3 p1 0 n (cellsM n (fun _ => 0) (cs.take (k + 1))) ∧ MemAt refK own3 c2 w3 p2 0 n (cellsM n (fun _ => 0) (cs.take (k + 1))) ∧ Blk w3 xb 26 #[.pointer none, .pointer none] ∧ own3 xb = c1 + c2 + 1 ∧ Blk w3 xt 26 #[.pointer (some ⟨p1, 0, none⟩), .pointer (some ⟨p2, 0, none⟩)] ∧ own3 xt = c1 + c2 + 1 from ⟨own4, hS5, hA4, hB4, hb4.1, hb4.2, ht4.1, ht4.2⟩)
      clear hA4 hB4 hb4 ht4 hS4 hS5 HW HE
      refine hK _ _ ?_; clear hK K
      go_wp2
      exact ⟨⟨k + 1, by omega, by go_num, H4.out⟩, by simp [intOf]; omega⟩
    · obtain rfl : k = cs.length := by omega
      rw [List.take_length] at hMa hMb
      have hz0 := hbb.frozen 0
      have hz1 := hbb.frozen 1
      have hx0 := hbb.cell 0
      have hx1 := hbb.cell 1
      have hy0 := hbt.cell 0
      have hy1 := hbt.cell 1
      have hlb := hbb.lt
      have HX2 := Lib.hid (And.intro hS3 (And.intro (And.intro hMa hMb) (And.intro hbb hob)))
      clear hU3 hS3 hMa hMb hbb hob hbt hot HX
      go_wp2
      have hB := (HX2.out.2.2.1.set_ 0 (.pointer (some ⟨p1, 0, none⟩))).set_ 1 (.pointer (some ⟨p2, 0, none⟩))
      refine bodyPost_ret (results_cell_tmp_row rfl _ _ xb 26 #[.pointer (some ⟨p1, 0, none⟩), .pointer (some ⟨p2, 0, none⟩)] _ rfl hB Try.underlying26 rfl (by kernel_rfl)) rfl ?_
      have hst : Step (· = c1 + c2 + 1) own3 wr own3 ((wr.setCell ⟨xb, 0, none⟩ (.pointer (some ⟨p1, 0, none⟩))).setCell ⟨xb, 1, none⟩ (.pointer (some ⟨p2, 0, none⟩))) := ⟨((Upd.refl _ _).setCell (.inl HX2.out.2.2.2) _).setCell (.inl HX2.out.2.2.2) _, fun _ _ => rfl⟩
      have hU : Upd (· = xb) wr ((wr.setCell ⟨xb, 0, none⟩ (.pointer (some ⟨p1, 0, none⟩))).setCell ⟨xb, 1, none⟩ (.pointer (some ⟨p2, 0, none⟩))) := ((Upd.refl (· = xb) wr).setCell (p := ⟨xb, 0, none⟩) (.inl rfl) _).setCell (p := ⟨xb, 1, none⟩) (.inl rfl) _
      exact ⟨p1, p2, rfl, own3, ⟨HX2.out.1.upd.trans' hU (fun i hi e => by omega), HX2.out.1.old⟩, HX2.out.2.1.1.step hst (by omega), HX2.out.2.1.2.step hst (by omega)⟩
theorem MemIn.recolC {K : MK} {own own' : Nat → Nat} {c c' p q base : Nat} {fs : List (Option Nat)} {m : Nat → Int} {w : World} (h : MemIn K own c w p q base fs m) (hg : ∀ b, b < w.heap.size → own b = c → own' b = c') : MemIn K own' c' w p q base fs m :=
  { h with op := hg _ h.bp.lt h.op, oq := hg _ h.bq.lt h.oq, there := fun k b e => ⟨hg _ (FrameAt.lt (h.there k b e).2) (h.there k b e).1, (h.there k b e).2⟩ }
theorem MemAt.recolC {K : MK} {own own' : Nat → Nat} {c c' p base n : Nat} {m : Nat → Int} {w : World} (h : MemAt K own c w p base n m) (hg : ∀ b, b < w.heap.size → own b = c → own' b = c') : MemAt K own' c' w p base n m := by
  obtain ⟨q, fs, h, e⟩ := h
  exact ⟨q, fs, h.recolC hg, e⟩
theorem law_MemoryC (n : Nat) (hn : 1 ≤ n) (hn2 : n ≤ 1024) (own : Nat → Nat) (c1 c2 : Nat) (hc : c1 ≠ c2) (w : World) (v : Value) (cs : List (Int × Nat)) (hv : CellsAt w v cs) (hlen : cs.length ≤ 9223372036854775807) (hb : ∀ x ∈ cs, -9223372036854775808 ≤ x.1 ∧ x.1 ≤ 9223372036854775807 ∧ x.2 < 18446744073709551616) :
    Calls Try.prog 10 #[.int .u64 0, .int .i64 (n : Int), v] w fun e w' => ∃ p1 p2 own', e = .returned (.tuple #[.agg #[.pointer (some ⟨p1, 0, none⟩), .pointer (some ⟨p2, 0, none⟩)], .bool true]) ∧ Step (fun _ => False) own w own' w' ∧
      MemAt ramK own' c1 w' p1 0 n (cellsM n (fun _ => 0) cs) ∧ MemAt refK own' c2 w' p2 0 n (cellsM n (fun _ => 0) cs) := by
  refine (law_MemoryC0 n hn hn2 (fun b => if b < w.heap.size then 0 else 1) 2 3 (by decide) w (fun b hb => by simp only [if_pos hb]; decide) v cs hv hlen hb).mono ?_
  rintro e w' ⟨p1, p2, own3, rfl, hS, h1, h2⟩
  refine ⟨p1, p2, fun b => if b < w.heap.size then own b else if own3 b = 2 then c1 else c2, rfl, ⟨hS.upd, fun b hb => if_pos hb⟩, h1.recolC (fun b hb e => ?_), h2.recolC (fun b hb e => ?_)⟩
  · have hb2 : ¬ b < w.heap.size := fun h => by have := hS.old b h; simp only [if_pos h] at this; omega
    simp only [if_neg hb2, if_pos e]
  · have hb2 : ¬ b < w.heap.size := fun h => by have := hS.old b h; simp only [if_pos h] at this; omega
    simp only [if_neg hb2]
    rw [if_neg (by omega)]
theorem CellsAt.upd {w w' : World} {v : Value} {cs : List (Int × Nat)} (h : CellsAt w v cs) (hU : Upd (fun _ => False) w w') : CellsAt w' v cs := by
  obtain ⟨A, cap, he, hf⟩ := h
  refine ⟨A, cap, he, fun hl => ?_⟩
  obtain ⟨g, o, hA, hg, hc⟩ := hf hl
  exact ⟨g, o, hA, Nat.lt_of_lt_of_le hg hU.size, fun k x hx => ⟨(hU.cell (p := ⟨g, o + k * 2, none⟩) hg (fun h => h)).trans (hc k x hx).1, (hU.cell (p := ⟨g, o + k * 2 + 1, none⟩) hg (fun h => h)).trans (hc k x hx).2⟩⟩
end Go.Proofs.Ytjhibbhinbdciaa
