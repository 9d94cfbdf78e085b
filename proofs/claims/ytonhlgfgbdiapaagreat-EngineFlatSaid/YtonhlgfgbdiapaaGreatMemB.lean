import Derived.Test.YtonhlgfgbdiapaaGreatMemC
/- Memory with cells in it, from any base on (citadellaw00.Memory, Two). -/
namespace Go.Proofs.YtonhlgfgbdiapaaGreat
set_option linter.unusedVariables false
set_option linter.unusedSimpArgs false
open Go.RowKit
set_option maxRecDepth 100000

theorem two_WriteB {own : Nat → Nat} {c1 c2 p1 p2 bs n : Nat} {m : Nat → Int} {w : World} (hc : c1 ≠ c2) (h1 : MemAt ramK own c1 w p1 bs n m) (h2 : MemAt refK own c2 w p2 bs n m) (addr size v : Int) (ha0 : 0 ≤ addr) (ha1 : addr < 18446744073709551616) (hs0 : -9223372036854775808 ≤ size) (hs1 : size ≤ 9223372036854775807) (hv0 : 0 ≤ v) (hv1 : v < 18446744073709551616) :
    Calls Tryz.prog 47 #[.agg #[.pointer (some ⟨p1, 0, none⟩), .pointer (some ⟨p2, 0, none⟩)], .int .u64 addr, .int .i64 size, .int .u64 v] w fun e w' =>
      e = .returned (.tuple #[]) ∧ ∃ own', Step (fun x => x = c1 ∨ x = c2) own w own' w' ∧ MemAt ramK own' c1 w' p1 bs n (wrR bs n m addr size v) ∧ MemAt refK own' c2 w' p2 bs n (wrR bs n m addr size v) := by
  have hst : Step (fun _ => False) own w (ext own w (c1 + c2 + 1)) (w.alloc (.cells #[.pointer (some ⟨p1, 0, none⟩), .pointer (some ⟨p2, 0, none⟩)] 34)) := ⟨(Upd.refl _ _).alloc _, fun b hb => ext_old _ _ _ hb⟩
  have hB := Blk.new w 34 #[.pointer (some ⟨p1, 0, none⟩), .pointer (some ⟨p2, 0, none⟩)]
  have H0 := Lib.hid (And.intro hst (And.intro (h1.step hst (fun h => h)) (And.intro (h2.step hst (fun h => h)) (And.intro hB (show ext own w (c1 + c2 + 1) w.heap.size = c1 + c2 + 1 from ext_new _ _ _ (Nat.le_refl _))))))
  clear hst hB h1 h2
  have hbl := H0.out.2.2.2.1.cell 0
  simp only [List.getElem?_toArray, List.getElem?_cons_zero] at hbl
  go_enter Tryz.func47, Tryz.ntmps47
  go_wp2_with fail
  refine (ram_Write H0.out.2.1 addr size v ha0 ha1 hs0 hs1 hv0 hv1).mono ?_
  rintro e w1 ⟨rfl, own1, hS, hM⟩
  have hb1 := hS.blk H0.out.2.2.2.1 H0.out.2.2.2.2 (by omega)
  have hM2 := H0.out.2.2.1.step hS (fun h => hc h.symm)
  have H1 := Lib.hid (And.intro (H0.out.1.mono (C' := fun x => x = c1 ∨ x = c2) (fun _ h => h.elim) |>.trans (hS.mono (fun x h => Or.inl h))) (And.intro hM hM2))
  have hbl2 := hb1.1.cell 1
  simp only [List.getElem?_toArray, List.getElem?_cons_zero, List.getElem?_cons_succ] at hbl2
  clear hS hM hM2 hb1 H0 hbl
  go_wp2_with fail
  refine (mref_Write H1.out.2.2 addr size v ha0 ha1 hs0 hs1 hv0 hv1).mono ?_
  rintro e w2 ⟨rfl, own2, hS, hM⟩
  have H2 := Lib.hid (And.intro (H1.out.1.trans (hS.mono (fun x h => Or.inr h))) (And.intro (H1.out.2.1.step hS hc) hM))
  clear hS hM H1 hbl2
  go_wp2
  go_end0
  exact ⟨rfl, own2, H2.out⟩
theorem two_SameB {own : Nat → Nat} {c1 c2 p1 p2 bs n : Nat} {m : Nat → Int} {w : World} (h1 : MemAt ramK own c1 w p1 bs n m) (h2 : MemAt refK own c2 w p2 bs n m) :
    Calls Tryz.prog 23 #[.agg #[.pointer (some ⟨p1, 0, none⟩), .pointer (some ⟨p2, 0, none⟩)]] w fun e w' =>
      e = .returned (.bool true) ∧ ∃ own', Step (fun _ => False) own w own' w' := by
  obtain ⟨hbs, hn1, hn2⟩ := h1.sizes
  have hst : Step (fun _ => False) own w (ext own w (c1 + c2 + 1)) (w.alloc (.cells #[.pointer (some ⟨p1, 0, none⟩), .pointer (some ⟨p2, 0, none⟩)] 34)) := ⟨(Upd.refl _ _).alloc _, fun b hb => ext_old _ _ _ hb⟩
  have hB := Blk.new w 34 #[.pointer (some ⟨p1, 0, none⟩), .pointer (some ⟨p2, 0, none⟩)]
  have H0 := Lib.hid (And.intro hst (And.intro (h1.step hst (fun h => h)) (And.intro (h2.step hst (fun h => h)) (And.intro hB (show ext own w (c1 + c2 + 1) w.heap.size = c1 + c2 + 1 from ext_new _ _ _ (Nat.le_refl _))))))
  clear hst hB h1 h2
  go_enter Tryz.func23, Tryz.ntmps23
  go_wp2
  generalize (w.alloc (.cells #[.pointer (some ⟨p1, 0, none⟩), .pointer (some ⟨p2, 0, none⟩)] 34)) = w1 at *
  generalize ext own w (c1 + c2 + 1) = own1 at *
  generalize w.heap.size = tb at *
  go_loopw [3] (fun i wr => ∃ (k : Nat), k ≤ n ∧ i = .int .i64 (k : Int) ∧ Hid (∃ own', Step (fun _ => False) own w own' wr ∧ MemAt ramK own' c1 wr p1 bs n m ∧ MemAt refK own' c2 wr p2 bs n m ∧ Blk wr tb 34 #[.pointer (some ⟨p1, 0, none⟩), .pointer (some ⟨p2, 0, none⟩)] ∧ own' tb = c1 + c2 + 1)) (fun i _ => n - (intOf i).toNat)
  case atStart => exact ⟨0, by omega, rfl, own1, H0.out⟩
  case round =>
    obtain ⟨k, hk, rfl, HR⟩ := hrel
    obtain ⟨own2, hS, hM1, hM2, hBt, hBo⟩ := HR.out
    have hb0 := hBt.cell 0
    have hb1 := hBt.cell 1
    simp only [List.getElem?_toArray, List.getElem?_cons_zero, List.getElem?_cons_succ] at hb0 hb1
    obtain ⟨q, fs, hIn, hfl⟩ := hM2
    have hc0 : wr.cell? ⟨p2, 0, none⟩ = some (.int .u64 (bs : Int)) := hIn.bp.cell 0
    have hc1 : wr.cell? ⟨p2, 1, none⟩ = some (.int .i64 (fs.length : Int)) := hIn.bp.cell 1
    rw [hfl] at hc1
    have H1 := Lib.hid (And.intro hS (And.intro hM1 (And.intro hIn (And.intro hBt hBo))))
    clear hS hM1 hIn hBt hBo HR H0
    by_cases hlt : k < n
    · have hlt' : (k : Int) < (n : Int) := by omega
      have hdr : Step (fun _ => False) own2 wr own2 wr.drew := (Step.refl _ _ _).drew
      have H1d := Lib.hid (And.intro (H1.out.1.trans hdr) (And.intro (H1.out.2.1.step hdr (fun h => h)) (And.intro (H1.out.2.2.1.step hdr (fun h => h)) (hdr.blk H1.out.2.2.2.1 H1.out.2.2.2.2 (fun h => h)))))
      clear hdr
      have HBy := Lib.hid (ram_Bytes' H1d.out.2.1 (k * 4096) 4096 (c1 + c2 + 1) (by omega) (by omega))
      have hkm : IntKind.u64.wrap ((k : Int) * 4096) = (k : Int) * 4096 := IntWalk.u64_in _ (by omega)
      have hkb : IntKind.u64.wrap ((bs : Int) + (k : Int) * 4096) = (bs : Int) + (k : Int) * 4096 := IntWalk.u64_in _ (by omega)
      go_wp2_with fail
      refine wpE_region (S := fun (W' : World) => W'.cell? ⟨tb, 0, none⟩ = some (.pointer (some ⟨p1, 0, none⟩)) ∧ W'.cell? ⟨tb, 1, none⟩ = some (.pointer (some ⟨p2, 0, none⟩)) ∧ W'.cell? ⟨p2, 0, none⟩ = some (.int .u64 (bs : Int))) (s := 16) (by kernel_rfl) ?_
      have hS : (fun (W' : World) => W'.cell? ⟨tb, 0, none⟩ = some (.pointer (some ⟨p1, 0, none⟩)) ∧ W'.cell? ⟨tb, 1, none⟩ = some (.pointer (some ⟨p2, 0, none⟩)) ∧ W'.cell? ⟨p2, 0, none⟩ = some (.int .u64 (bs : Int))) _ := ⟨hb0, hb1, hc0⟩
      refine wpE_take (i := 0) (oi := { dst := some 16, op := Go.Op.fieldAddr 34 (Go.Operand.tmp 1) 0, type := 0, pos := "law.go:164", after := #[], guard := none }) (v := ?_) rfl (by kernel_rfl) (fun _ _ _ h => h) (Or.inl ⟨by rfl, fun W hW => ?_⟩) hS ?_
      rotate_left
      · obtain ⟨hw1, hw2, hw3⟩ := hW; go_simp; (try go_bits); (try rw [if_pos (by omega)]); (try with_reducible rfl)
      (try simp only [Act.put, List.setIfInBounds_toArray, List.set_cons_succ, List.set_cons_zero])
      refine wpE_take (i := 1) (oi := { dst := some 17, op := Go.Op.load 31 (Go.Operand.tmp 16), type := 31, pos := "law.go:164", after := #[{ on := 0, ground := Go.Ground.data }], guard := none }) (v := ?_) rfl (by kernel_rfl) (fun _ _ _ h => h) (Or.inl ⟨by rfl, fun W hW => ?_⟩) hS ?_
      rotate_left
      · obtain ⟨hw1, hw2, hw3⟩ := hW; go_simp; (try go_bits); (try rw [if_pos (by omega)]); (try with_reducible rfl)
      (try simp only [Act.put, List.setIfInBounds_toArray, List.set_cons_succ, List.set_cons_zero])
      refine wpE_take (i := 2) (oi := { dst := some 18, op := Go.Op.fieldAddr 34 (Go.Operand.tmp 1) 1, type := 0, pos := "law.go:164", after := #[], guard := none }) (v := ?_) rfl (by kernel_rfl) (fun _ _ _ h => h) (Or.inl ⟨by rfl, fun W hW => ?_⟩) hS ?_
      rotate_left
      · obtain ⟨hw1, hw2, hw3⟩ := hW; go_simp; (try go_bits); (try rw [if_pos (by omega)]); (try with_reducible rfl)
      (try simp only [Act.put, List.setIfInBounds_toArray, List.set_cons_succ, List.set_cons_zero])
      refine wpE_take (i := 3) (oi := { dst := some 19, op := Go.Op.load 32 (Go.Operand.tmp 18), type := 32, pos := "law.go:164", after := #[{ on := 2, ground := Go.Ground.data }], guard := none }) (v := ?_) rfl (by kernel_rfl) (fun _ _ _ h => h) (Or.inl ⟨by rfl, fun W hW => ?_⟩) hS ?_
      rotate_left
      · obtain ⟨hw1, hw2, hw3⟩ := hW; go_simp; (try go_bits); (try rw [if_pos (by omega)]); (try with_reducible rfl)
      (try simp only [Act.put, List.setIfInBounds_toArray, List.set_cons_succ, List.set_cons_zero])
      refine wpE_take (i := 4) (oi := { dst := some 20, op := Go.Op.nilCheck (Go.Operand.tmp 19), type := 0, pos := "law.go:164", after := #[{ on := 3, ground := Go.Ground.data }], guard := none }) (v := ?_) rfl (by kernel_rfl) (fun _ _ _ h => h) (Or.inl ⟨by rfl, fun W hW => ?_⟩) hS ?_
      rotate_left
      · obtain ⟨hw1, hw2, hw3⟩ := hW; go_simp; (try go_bits); (try rw [if_pos (by omega)]); (try with_reducible rfl)
      (try simp only [Act.put, List.setIfInBounds_toArray, List.set_cons_succ, List.set_cons_zero])
      refine wpE_take (i := 5) (oi := { dst := some 21, op := Go.Op.fieldAddr 149 (Go.Operand.tmp 20) 0, type := 0, pos := "law.go:164", after := #[{ on := 4, ground := Go.Ground.data }], guard := none }) (v := ?_) rfl (by kernel_rfl) (fun _ _ _ h => h) (Or.inl ⟨by rfl, fun W hW => ?_⟩) hS ?_
      rotate_left
      · obtain ⟨hw1, hw2, hw3⟩ := hW; go_simp; (try go_bits); (try rw [if_pos (by omega)]); (try with_reducible rfl)
      (try simp only [Act.put, List.setIfInBounds_toArray, List.set_cons_succ, List.set_cons_zero])
      refine wpE_take (i := 6) (oi := { dst := some 22, op := Go.Op.load 23 (Go.Operand.tmp 21), type := 23, pos := "law.go:164", after := #[{ on := 5, ground := Go.Ground.data }], guard := none }) (v := ?_) rfl (by kernel_rfl) (fun _ _ _ h => h) (Or.inl ⟨by rfl, fun W hW => ?_⟩) hS ?_
      rotate_left
      · obtain ⟨hw1, hw2, hw3⟩ := hW; go_simp; (try go_bits); (try rw [if_pos (by omega)]); (try with_reducible rfl)
      (try simp only [Act.put, List.setIfInBounds_toArray, List.set_cons_succ, List.set_cons_zero])
      refine wpE_take (i := 7) (oi := { dst := some 23, op := Go.Op.move (Go.Operand.tmp 3), type := 3, pos := "law.go:164", after := #[], guard := none }) (v := ?_) rfl (by kernel_rfl) (fun _ _ _ h => h) (Or.inl ⟨by rfl, fun W hW => ?_⟩) hS ?_
      rotate_left
      · obtain ⟨hw1, hw2, hw3⟩ := hW; go_simp; (try go_bits); (try rw [if_pos (by omega)]); (try with_reducible rfl)
      (try simp only [Act.put, List.setIfInBounds_toArray, List.set_cons_succ, List.set_cons_zero])
      refine wpE_take (i := 8) (oi := { dst := some 24, op := Go.Op.convert 3 23 (Go.Operand.tmp 23), type := 23, pos := "law.go:164", after := #[{ on := 7, ground := Go.Ground.data }], guard := none }) (v := .int .u64 (k : Int)) rfl (by kernel_rfl) (fun _ _ _ h => h) (Or.inl ⟨by rfl, fun W hW => ?_⟩) hS ?_
      · obtain ⟨hw1, hw2, hw3⟩ := hW; go_simp; (try go_bits); (try trivial)
      (try simp only [Act.put, List.setIfInBounds_toArray, List.set_cons_succ, List.set_cons_zero])
      refine wpE_take (i := 9) (oi := { dst := some 25, op := Go.Op.binOp Go.BinOp.mul 23 (Go.Operand.tmp 24) (Go.Operand.const (Go.Value.int Go.IntKind.u64 4096)) 23, type := 23, pos := "law.go:164", after := #[{ on := 8, ground := Go.Ground.data }], guard := none }) (v := .int .u64 ((k : Int) * 4096)) rfl (by kernel_rfl) (fun _ _ _ h => h) (Or.inl ⟨by rfl, fun W hW => ?_⟩) hS ?_
      · obtain ⟨hw1, hw2, hw3⟩ := hW; go_simp; (try rw [hkm])
      (try simp only [Act.put, List.setIfInBounds_toArray, List.set_cons_succ, List.set_cons_zero])
      refine wpE_take (i := 10) (oi := { dst := some 26, op := Go.Op.binOp Go.BinOp.add 23 (Go.Operand.tmp 22) (Go.Operand.tmp 25) 23, type := 23, pos := "law.go:164", after := #[{ on := 6, ground := Go.Ground.data }, { on := 9, ground := Go.Ground.data }], guard := none }) (v := .int .u64 ((bs : Int) + (k : Int) * 4096)) rfl (by kernel_rfl) (fun _ _ _ h => h) (Or.inl ⟨by rfl, fun W hW => ?_⟩) hS ?_
      · obtain ⟨hw1, hw2, hw3⟩ := hW; go_simp; (try rw [hkb]); (try rw [hkb]); (try trivial)
      (try simp only [Act.put, List.setIfInBounds_toArray, List.set_cons_succ, List.set_cons_zero])
      refine wpE_only (i := 11) (oi := { dst := some 27, op := Go.Op.call { callee := Go.Callee.value (Go.Operand.func 18), args := #[Go.Operand.tmp 17, Go.Operand.tmp 26, Go.Operand.const (Go.Value.int Go.IntKind.i64 4096)], argTypes := #[31, 23, 3] }, type := 64, pos := "law.go:164", after := #[{ on := 1, ground := Go.Ground.data }, { on := 10, ground := Go.Ground.data }], guard := none }) rfl (by kernel_rfl) (by rfl) (fun K hK => ?_)
      go_simp
      refine (HBy.out _ (by omega)).mono ?_; rintro e w3 ⟨b, own3, rfl, hS3, hbo3, hby⟩
      have hB3 := hS3.blk H1d.out.2.2.2.1 H1d.out.2.2.2.2 (fun h => h)
      have hIn3 := H1d.out.2.2.1.step hS3 (fun h => h)
      have hM3 := H1d.out.2.1.step hS3 (fun h => h)
      have hS : w3.cell? ⟨tb, 0, none⟩ = some (.pointer (some ⟨p1, 0, none⟩)) ∧ w3.cell? ⟨tb, 1, none⟩ = some (.pointer (some ⟨p2, 0, none⟩)) ∧ w3.cell? ⟨p2, 0, none⟩ = some (.int .u64 (bs : Int)) := ⟨hB3.1.cell 0, hB3.1.cell 1, hIn3.bp.cell 0⟩
      have H3 := Lib.hid (And.intro (H1d.out.1.trans hS3) (And.intro hM3 (And.intro hIn3 (And.intro hB3 hby))))
      clear hB3 hIn3 hM3 hS3 hby hbo3
      refine hK _ _ hS ?_; clear hK K
      (try simp only [Act.put, List.setIfInBounds_toArray, List.set_cons_succ, List.set_cons_zero])
      refine wpE_take (i := 12) (oi := { dst := some 15, op := Go.Op.move (Go.Operand.tmp 27), type := 64, pos := "law.go:164", after := #[{ on := 11, ground := Go.Ground.data }], guard := none }) (v := ?_) rfl (by kernel_rfl) (fun _ _ _ h => h) (Or.inl ⟨by rfl, fun W hW => ?_⟩) hS ?_
      rotate_left
      · obtain ⟨hw1, hw2, hw3⟩ := hW; go_simp; (try go_bits); (try rw [if_pos (by omega)]); (try with_reducible rfl)
      (try simp only [Act.put, List.setIfInBounds_toArray, List.set_cons_succ, List.set_cons_zero])
      refine wpE_take (i := 13) (oi := { dst := some 28, op := Go.Op.extract (Go.Operand.tmp 15) 0, type := 63, pos := "law.go:164", after := #[{ on := 12, ground := Go.Ground.data }], guard := none }) (v := ?_) rfl (by kernel_rfl) (fun _ _ _ h => h) (Or.inl ⟨by rfl, fun W hW => ?_⟩) hS ?_
      rotate_left
      · obtain ⟨hw1, hw2, hw3⟩ := hW; go_simp; (try go_bits); (try rw [if_pos (by omega)]); (try with_reducible rfl)
      (try simp only [Act.put, List.setIfInBounds_toArray, List.set_cons_succ, List.set_cons_zero])
      refine wpE_take (i := 14) (oi := { dst := some 29, op := Go.Op.extract (Go.Operand.tmp 15) 1, type := 4, pos := "law.go:164", after := #[{ on := 12, ground := Go.Ground.data }, { on := 15, ground := Go.Ground.gcOnly Go.Departure.lateStores }], guard := none }) (v := ?_) rfl (by kernel_rfl) (fun _ _ _ h => h) (Or.inl ⟨by rfl, fun W hW => ?_⟩) hS ?_
      rotate_left
      · obtain ⟨hw1, hw2, hw3⟩ := hW; go_simp; (try go_bits); (try rw [if_pos (by omega)]); (try with_reducible rfl)
      (try simp only [Act.put, List.setIfInBounds_toArray, List.set_cons_succ, List.set_cons_zero])
      refine wpE_only (i := 15) (oi := { dst := some 4, op := Go.Op.assign (Go.Operand.tmp 28), type := 63, pos := "law.go:164", after := #[{ on := 13, ground := Go.Ground.data }, { on := 11, ground := Go.Ground.chain }, { on := 0, ground := Go.Ground.phase }, { on := 1, ground := Go.Ground.phase }, { on := 2, ground := Go.Ground.phase }, { on := 3, ground := Go.Ground.phase }, { on := 4, ground := Go.Ground.phase }, { on := 5, ground := Go.Ground.phase }, { on := 6, ground := Go.Ground.phase }, { on := 7, ground := Go.Ground.phase }, { on := 8, ground := Go.Ground.phase }, { on := 9, ground := Go.Ground.phase }, { on := 10, ground := Go.Ground.phase }, { on := 11, ground := Go.Ground.phase }, { on := 12, ground := Go.Ground.phase }, { on := 13, ground := Go.Ground.phase }, { on := 14, ground := Go.Ground.textOnly Go.Departure.lateStores }], guard := none }) rfl (by kernel_rfl) (by rfl) (fun K hK => ?_)
      go_simp; (try go_bits); refine hK _ _ hS ?_; clear hK K
      (try simp only [Act.put, List.setIfInBounds_toArray, List.set_cons_succ, List.set_cons_zero])
      refine wpE_last (oi := { dst := some 5, op := Go.Op.assign (Go.Operand.tmp 29), type := 4, pos := "law.go:164", after := #[{ on := 14, ground := Go.Ground.data }, { on := 15, ground := Go.Ground.chain }, { on := 0, ground := Go.Ground.phase }, { on := 1, ground := Go.Ground.phase }, { on := 2, ground := Go.Ground.phase }, { on := 3, ground := Go.Ground.phase }, { on := 4, ground := Go.Ground.phase }, { on := 5, ground := Go.Ground.phase }, { on := 6, ground := Go.Ground.phase }, { on := 7, ground := Go.Ground.phase }, { on := 8, ground := Go.Ground.phase }, { on := 9, ground := Go.Ground.phase }, { on := 10, ground := Go.Ground.phase }, { on := 11, ground := Go.Ground.phase }, { on := 12, ground := Go.Ground.phase }, { on := 13, ground := Go.Ground.phase }, { on := 14, ground := Go.Ground.phase }, { on := 15, ground := Go.Ground.phase }], guard := none }) rfl (by kernel_rfl) (by kernel_rfl) (by rfl) (fun K hK => ?_)
      go_simp; (try go_bits); refine hK _ _ ?_; clear hK K
      obtain ⟨hx0, hx1, _⟩ := hS
      have hy2 : w3.cell? ⟨p2, 2, none⟩ = some (.slice (some ⟨q, 0, none⟩) fs.length fs.length) := H3.out.2.2.1.bp.cell 2
      have hq := H3.out.2.2.1.cellq k
      rw [List.getElem?_eq_getElem (by omega), Option.map_some] at hq
      have qn := bytes_nil
      have hfl' : k < fs.length := by omega
      rcases hf : fs[k] with _ | bf
      · rw [hf] at hq
        simp only [refK, slV] at hq
        have hgo : ∀ j, j < 4096 → m (k * 4096 + j) = 0 := H3.out.2.2.1.gone k (by rw [List.getElem?_eq_getElem hfl', hf])
        have HZ := Lib.hid (law_zero H3.out.2.2.2.2 hgo)
        clear hgo hf
        go_wp2_with fail
        refine HZ.out.mono ?_; rintro e wz ⟨rfl, rfl⟩
        go_wp2
        exact ⟨⟨k + 1, by omega, by go_num, own3, H3.out.1, H3.out.2.1, ⟨q, fs, H3.out.2.2.1, hfl⟩, H3.out.2.2.2.1⟩, by simp [intOf]; omega⟩
      · rw [hf] at hq
        simp only [refK, slV] at hq
        obtain ⟨_, hfr⟩ := H3.out.2.2.1.there k bf (by rw [List.getElem?_eq_getElem hfl', hf])
        have HZ := Lib.hid (law_SameBytes (ca := 4096) (cb := 4096) (by omega) H3.out.2.2.2.2 (show BytesAt w3 bf m (k * 4096) 4096 from hfr) (fun _ _ => rfl))
        clear hfr hf
        go_wp2_with fail
        refine HZ.out.mono ?_; rintro e wz ⟨rfl, z, rfl⟩
        have hst : Step (fun _ => False) own3 w3 own3 (w3.drewN z) := (Step.refl _ _ _).drewN z
        go_wp2
        exact ⟨⟨k + 1, by omega, by go_num, own3, H3.out.1.trans hst, H3.out.2.1.step hst (fun h => h), ⟨q, fs, H3.out.2.2.1.step hst (fun h => h), hfl⟩, hst.blk H3.out.2.2.2.1.1 H3.out.2.2.2.1.2 (fun h => h)⟩, by simp [intOf]; omega⟩
    · obtain rfl : k = n := by omega
      go_wp2
      go_ret
      exact ⟨rfl, own2, H1.out.1⟩
theorem cell_wrB (bs : Nat) (hbs : bs ≤ 1099511627776) (hbs2 : bs % 4096 = 0) (n : Nat) (hn : 1 ≤ n) (m : Nat → Int) (x : Int × Nat) (b : Int) (hb : b = 8 * (x.1 % (512 * (n : Int)))) : wrR bs n m ((bs : Int) + b) 8 (x.2 : Int) = cellM n m x ∧ 0 ≤ b ∧ b < 4096 * n := by
  have h0 := Int.emod_nonneg x.1 (show (512 * (n : Int)) ≠ 0 by omega)
  have h1 := Int.emod_lt_of_pos x.1 (show (0 : Int) < (512 * (n : Int)) by omega)
  unfold cellM
  rw [show ((512 * n : Nat) : Int) = 512 * (n : Int) from by omega]
  generalize hq : x.1 % (512 * (n : Int)) = q at *
  subst hb
  have hh : hasR bs n ((bs : Int) + 8 * q) 8 = true := hasR_iff.2 ⟨by omega, by omega, by omega, by omega⟩
  unfold wrR
  rw [hh, show okS 8 = true from rfl]
  refine ⟨?_, by omega, by omega⟩
  simp only [Bool.and_self, if_true]
  rw [show ((bs : Int) + 8 * q - ((bs : Nat) : Int)).toNat = 8 * q.toNat from by omega]; rfl
set_option maxHeartbeats 4000000 in
theorem law_MemoryB0 (bs : Nat) (hbs : bs ≤ 1099511627776) (hbs2 : bs % 4096 = 0) (n : Nat) (hn : 1 ≤ n) (hn2 : n ≤ 1024) (own : Nat → Nat) (c1 c2 : Nat) (hc : c1 ≠ c2) (w : World) (hfr : ∀ b, b < w.heap.size → own b ≠ c1 ∧ own b ≠ c2) (v : Value) (cs : List (Int × Nat)) (hv : CellsAt w v cs) (hlen : cs.length ≤ 9223372036854775807) (hb : ∀ x ∈ cs, -9223372036854775808 ≤ x.1 ∧ x.1 ≤ 9223372036854775807 ∧ x.2 < 18446744073709551616) :
    Calls Tryz.prog 20 #[.int .u64 (bs : Int), .int .i64 (n : Int), v] w fun e w' => ∃ p1 p2 own', e = .returned (.tuple #[.agg #[.pointer (some ⟨p1, 0, none⟩), .pointer (some ⟨p2, 0, none⟩)], .bool true]) ∧ Step (fun _ => False) own w own' w' ∧
      MemAt ramK own' c1 w' p1 bs n (cellsM n (fun _ => 0) cs) ∧ MemAt refK own' c2 w' p2 bs n (cellsM n (fun _ => 0) cs) := by
  obtain ⟨A, cap, rfl, hrow⟩ := hv
  have HV := Lib.hid (And.intro hrow hb)
  have HFR := Lib.hid hfr
  clear hrow hb hfr
  have hS0 : Step (fun _ => False) own w (ext own w (c1 + c2 + 1)) (w.alloc (.cells #[.pointer none, .pointer none] 34)) := ⟨(Upd.refl _ _).alloc _, fun b hb => ext_old _ _ _ hb⟩
  have hB0 := Blk.new w 34 #[.pointer none, .pointer none]
  have ho0 : ext own w (c1 + c2 + 1) w.heap.size = c1 + c2 + 1 := ext_new _ _ _ (Nat.le_refl _)
  have H0 := Lib.hid (And.intro hS0 (And.intro hB0 ho0))
  clear hS0 hB0 ho0
  go_enter Tryz.func20, Tryz.ntmps20
  go_wp2_with fail
  refine (ram_New bs n (by omega) hbs2 hn hn2 (ext own w (c1 + c2 + 1)) c1 _).mono ?_
  rintro e w1 ⟨p1, own1, rfl, hS1, hM1, hp1⟩
  have hb1 := hS1.blk H0.out.2.1 H0.out.2.2 (fun h => h)
  have H1 := Lib.hid (And.intro (H0.out.1.trans hS1) (And.intro hM1 hb1))
  clear hS1 hM1 hp1 hb1
  go_wp2_with fail
  refine (mref_New bs n (by omega) hbs2 hn hn2 own1 c2 _).mono ?_
  rintro e w2 ⟨p2, own2, rfl, hS2, hM2, hp2⟩
  have hb2 := hS2.blk H1.out.2.2.1 H1.out.2.2.2 (fun h => h)
  have hM1 := H1.out.2.1.step hS2 (fun h => h)
  have hS := H1.out.1.trans hS2
  have H2 := Lib.hid (And.intro hS (And.intro hM1 (And.intro hM2 hb2)))
  have hlt := hb2.1.lt
  clear hS2 hM2 hp2 hb2 hM1 hS H1 H0
  have hl0 : w.heap.size ≤ w2.heap.size := H2.out.1.upd.size
  generalize hxb : w.heap.size = xb at *
  go_wp2
  generalize hxt : w2.heap.size = xt at *
  go_loopw [13] (fun i wr => ∃ (k : Nat), k ≤ cs.length ∧ i = .int .i64 (k : Int) ∧ Hid (∃ own3, Step (fun _ => False) own w own3 wr ∧ MemAt ramK own3 c1 wr p1 bs n (cellsM n (fun _ => 0) (cs.take k)) ∧ MemAt refK own3 c2 wr p2 bs n (cellsM n (fun _ => 0) (cs.take k)) ∧ Blk wr xb 34 #[.pointer none, .pointer none] ∧ own3 xb = c1 + c2 + 1 ∧ Blk wr xt 34 #[.pointer (some ⟨p1, 0, none⟩), .pointer (some ⟨p2, 0, none⟩)] ∧ own3 xt = c1 + c2 + 1)) (fun i _ => cs.length - (intOf i).toNat)
  case atStart =>
    have hst : Step (fun _ => False) own2 w2 (ext own2 w2 (c1 + c2 + 1)) (w2.alloc (.cells #[.pointer (some ⟨p1, 0, none⟩), .pointer (some ⟨p2, 0, none⟩)] 34)) := ⟨(Upd.refl _ _).alloc _, fun b hb => ext_old _ _ _ hb⟩
    have hS := H2.out.1.trans hst
    refine ⟨0, by omega, rfl, ext own2 w2 (c1 + c2 + 1), hS, H2.out.2.1.step hst (fun h => h), H2.out.2.2.1.step hst (fun h => h), H2.out.2.2.2.1.alloc _, by rw [ext_old own2 w2 _ H2.out.2.2.2.1.lt]; exact H2.out.2.2.2.2, ?_, by rw [← hxt]; exact ext_new _ _ _ (Nat.le_refl _)⟩
    have := Blk.new w2 34 #[.pointer (some ⟨p1, 0, none⟩), .pointer (some ⟨p2, 0, none⟩)]
    rwa [hxt] at this
  case round =>
    obtain ⟨k, hk, rfl, HX⟩ := hrel
    obtain ⟨own3, hS3, hMa, hMb, hbb, hob, hbt, hot⟩ := HX.out
    have hU3 := hS3.upd
    by_cases hlt' : k < cs.length
    · obtain ⟨g, o, rfl, hg, hcell⟩ := HV.out.1 (by omega)
      have hget : cs[k]? = some cs[k] := List.getElem?_eq_getElem hlt'
      have hmem : cs[k] ∈ cs := List.getElem_mem hlt'
      have htk : cs.take (k + 1) = cs.take k ++ [cs[k]] := by rw [List.take_add_one, hget]; rfl
      obtain ⟨b1, b2, b3⟩ := HV.out.2 _ hmem
      obtain ⟨q1, q2⟩ := hcell _ _ hget
      generalize cs[k] = x at *
      have c1' := (hU3.cell (p := ⟨g, o + k * 2, none⟩) (by show g < w.heap.size; omega) (fun h => h)).trans q1
      have c2' := (hU3.cell (p := ⟨g, o + k * 2 + 1, none⟩) (by show g < w.heap.size; omega) (fun h => h)).trans q2
      have y0 := hbt.cell 0
      have y1 := hbt.cell 1
      simp only [List.getElem?_toArray, List.getElem?_cons_zero, List.getElem?_cons_succ] at y0 y1
      have hlti : (k : Int) < (cs.length : Int) := by omega
      obtain ⟨e1, e2, e3⟩ := cell_wrB bs hbs hbs2 n hn (cellsM n (fun _ => 0) (cs.take k)) x _ rfl
      rw [← cellsM_snoc, ← htk] at e1
      have hHP := place_calls x.1 (512 * (n : Int)) wr.drew b1 b2 (by omega) (by omega)
      have hstd : Step (fun _ => False) own3 wr own3 wr.drew := (Step.refl _ _ _).drew
      have hHW := two_WriteB hc (hMa.step hstd (fun h => h)) (hMb.step hstd (fun h => h)) ((bs : Int) + 8 * (x.1 % (512 * (n : Int)))) 8 (x.2 : Int) (by omega) (by omega) (by decide) (by decide) (by omega) (by omega)
      have H3 := Lib.hid (And.intro (hS3.trans hstd) (And.intro (hstd.blk hbb hob (fun h => h)) (hstd.blk hbt hot (fun h => h))))
      have hlb := hbt.lt
      obtain ⟨q, hq⟩ : ∃ q, x.1 % (512 * (n : Int)) = q := ⟨_, rfl⟩
      rw [hq] at e1 e2 e3 hHP hHW
      have HP := Lib.hid hHP
      have HW := Lib.hid hHW
      have HE := Lib.hid e1
      have e4 : 0 ≤ q := by omega
      have e5 : q < 524288 := by omega
      clear hMa hMb hU3 hS3 hbb hob hbt hot q1 q2 hcell hget hmem htk HX e1 hHP hHW hq hstd
      go_wp2_with fail
      refine wpE_region (S := fun (W' : World) => W'.cell? ⟨g, o + k * 2, none⟩ = some (.int .i64 x.1) ∧ W'.cell? ⟨g, o + k * 2 + 1, none⟩ = some (.int .u64 (x.2 : Int)) ∧ W'.cell? ⟨xt, 0, none⟩ = some (.pointer (some ⟨p1, 0, none⟩)) ∧ W'.cell? ⟨xt, 1, none⟩ = some (.pointer (some ⟨p2, 0, none⟩))) (s := 18) (by kernel_rfl) ?_
      have hS : (fun (W' : World) => W'.cell? ⟨g, o + k * 2, none⟩ = some (.int .i64 x.1) ∧ W'.cell? ⟨g, o + k * 2 + 1, none⟩ = some (.int .u64 (x.2 : Int)) ∧ W'.cell? ⟨xt, 0, none⟩ = some (.pointer (some ⟨p1, 0, none⟩)) ∧ W'.cell? ⟨xt, 1, none⟩ = some (.pointer (some ⟨p2, 0, none⟩))) _ := ⟨c1', c2', y0, y1⟩
      refine wpE_take (i := 0) (oi := { dst := some 46, op := Go.Op.load 34 (Go.Operand.tmp 12), type := 34, pos := "law.go:144", after := #[], guard := none }) (v := ?_) rfl (by kernel_rfl) (fun _ _ _ h => h) (Or.inl ⟨by rfl, fun W hW => ?_⟩) hS ?_
      rotate_left
      · obtain ⟨hw1, hw2, hw3, hw4⟩ := hW; go_simp; (try go_bits); (try rw [if_pos (by omega)]); (try with_reducible rfl)
      (try simp only [Act.put, List.setIfInBounds_toArray, List.set_cons_succ, List.set_cons_zero])
      refine wpE_take (i := 1) (oi := { dst := some 47, op := Go.Op.move (Go.Operand.tmp 0), type := 23, pos := "law.go:144", after := #[], guard := none }) (v := ?_) rfl (by kernel_rfl) (fun _ _ _ h => h) (Or.inl ⟨by rfl, fun W hW => ?_⟩) hS ?_
      rotate_left
      · obtain ⟨hw1, hw2, hw3, hw4⟩ := hW; go_simp; (try go_bits); (try rw [if_pos (by omega)]); (try with_reducible rfl)
      (try simp only [Act.put, List.setIfInBounds_toArray, List.set_cons_succ, List.set_cons_zero])
      refine wpE_take (i := 2) (oi := { dst := some 48, op := Go.Op.move (Go.Operand.tmp 2), type := 22, pos := "law.go:144", after := #[], guard := none }) (v := ?_) rfl (by kernel_rfl) (fun _ _ _ h => h) (Or.inl ⟨by rfl, fun W hW => ?_⟩) hS ?_
      rotate_left
      · obtain ⟨hw1, hw2, hw3, hw4⟩ := hW; go_simp; (try go_bits); (try rw [if_pos (by omega)]); (try with_reducible rfl)
      (try simp only [Act.put, List.setIfInBounds_toArray, List.set_cons_succ, List.set_cons_zero])
      refine wpE_take (i := 3) (oi := { dst := some 49, op := Go.Op.move (Go.Operand.tmp 13), type := 3, pos := "law.go:144", after := #[], guard := none }) (v := ?_) rfl (by kernel_rfl) (fun _ _ _ h => h) (Or.inl ⟨by rfl, fun W hW => ?_⟩) hS ?_
      rotate_left
      · obtain ⟨hw1, hw2, hw3, hw4⟩ := hW; go_simp; (try go_bits); (try rw [if_pos (by omega)]); (try with_reducible rfl)
      (try simp only [Act.put, List.setIfInBounds_toArray, List.set_cons_succ, List.set_cons_zero])
      refine wpE_take (i := 4) (oi := { dst := some 50, op := Go.Op.indexAddr 22 (Go.Operand.tmp 48) (Go.Operand.tmp 49), type := 0, pos := "law.go:144", after := #[{ on := 2, ground := Go.Ground.data }, { on := 3, ground := Go.Ground.data }], guard := none }) (v := ?_) rfl (by kernel_rfl) (fun _ _ _ h => h) (Or.inl ⟨by rfl, fun W hW => ?_⟩) hS ?_
      rotate_left
      · obtain ⟨hw1, hw2, hw3, hw4⟩ := hW; go_simp; (try go_bits); (try rw [if_pos (by omega)]); (try with_reducible rfl)
      (try simp only [Act.put, List.setIfInBounds_toArray, List.set_cons_succ, List.set_cons_zero])
      refine wpE_take (i := 5) (oi := { dst := some 51, op := Go.Op.fieldAddr 26 (Go.Operand.tmp 50) 0, type := 0, pos := "law.go:144", after := #[{ on := 4, ground := Go.Ground.data }], guard := none }) (v := ?_) rfl (by kernel_rfl) (fun _ _ _ h => h) (Or.inl ⟨by rfl, fun W hW => ?_⟩) hS ?_
      rotate_left
      · obtain ⟨hw1, hw2, hw3, hw4⟩ := hW; go_simp; (try go_bits); (try rw [if_pos (by omega)]); (try with_reducible rfl)
      (try simp only [Act.put, List.setIfInBounds_toArray, List.set_cons_succ, List.set_cons_zero])
      refine wpE_take (i := 6) (oi := { dst := some 52, op := Go.Op.load 3 (Go.Operand.tmp 51), type := 3, pos := "law.go:144", after := #[{ on := 5, ground := Go.Ground.data }], guard := none }) (v := ?_) rfl (by kernel_rfl) (fun _ _ _ h => h) (Or.inl ⟨by rfl, fun W hW => ?_⟩) hS ?_
      rotate_left
      · obtain ⟨hw1, hw2, hw3, hw4⟩ := hW; go_simp; (try go_bits); (try rw [if_pos (by omega)]); (try with_reducible rfl)
      (try simp only [Act.put, List.setIfInBounds_toArray, List.set_cons_succ, List.set_cons_zero])
      refine wpE_take (i := 7) (oi := { dst := some 53, op := Go.Op.move (Go.Operand.tmp 1), type := 3, pos := "law.go:144", after := #[], guard := none }) (v := ?_) rfl (by kernel_rfl) (fun _ _ _ h => h) (Or.inl ⟨by rfl, fun W hW => ?_⟩) hS ?_
      rotate_left
      · obtain ⟨hw1, hw2, hw3, hw4⟩ := hW; go_simp; (try go_bits); (try rw [if_pos (by omega)]); (try with_reducible rfl)
      (try simp only [Act.put, List.setIfInBounds_toArray, List.set_cons_succ, List.set_cons_zero])
      refine wpE_take (i := 8) (oi := { dst := some 54, op := Go.Op.binOp Go.BinOp.mul 3 (Go.Operand.const (Go.Value.int Go.IntKind.i64 512)) (Go.Operand.tmp 53) 3, type := 3, pos := "law.go:144", after := #[{ on := 7, ground := Go.Ground.data }], guard := none }) (v := .int .i64 (512 * (n : Int))) rfl (by kernel_rfl) (fun _ _ _ h => h) (Or.inl ⟨by rfl, fun W hW => ?_⟩) hS ?_
      · obtain ⟨hw1, hw2, hw3, hw4⟩ := hW; go_simp; (try go_bits); (try rw [if_pos (by omega)]); (try trivial)
      (try simp only [Act.put, List.setIfInBounds_toArray, List.set_cons_succ, List.set_cons_zero])
      refine wpE_take (i := 13) (oi := { dst := some 59, op := Go.Op.move (Go.Operand.tmp 2), type := 22, pos := "law.go:144", after := #[], guard := none }) (v := ?_) rfl (by kernel_rfl) (fun _ _ _ h => h) (Or.inl ⟨by rfl, fun W hW => ?_⟩) hS ?_
      rotate_left
      · obtain ⟨hw1, hw2, hw3, hw4⟩ := hW; go_simp; (try go_bits); (try rw [if_pos (by omega)]); (try with_reducible rfl)
      (try simp only [Act.put, List.setIfInBounds_toArray, List.set_cons_succ, List.set_cons_zero])
      refine wpE_take (i := 14) (oi := { dst := some 60, op := Go.Op.move (Go.Operand.tmp 13), type := 3, pos := "law.go:144", after := #[], guard := none }) (v := ?_) rfl (by kernel_rfl) (fun _ _ _ h => h) (Or.inl ⟨by rfl, fun W hW => ?_⟩) hS ?_
      rotate_left
      · obtain ⟨hw1, hw2, hw3, hw4⟩ := hW; go_simp; (try go_bits); (try rw [if_pos (by omega)]); (try with_reducible rfl)
      (try simp only [Act.put, List.setIfInBounds_toArray, List.set_cons_succ, List.set_cons_zero])
      refine wpE_take (i := 15) (oi := { dst := some 61, op := Go.Op.indexAddr 22 (Go.Operand.tmp 59) (Go.Operand.tmp 60), type := 0, pos := "law.go:144", after := #[{ on := 13, ground := Go.Ground.data }, { on := 14, ground := Go.Ground.data }], guard := none }) (v := ?_) rfl (by kernel_rfl) (fun _ _ _ h => h) (Or.inl ⟨by rfl, fun W hW => ?_⟩) hS ?_
      rotate_left
      · obtain ⟨hw1, hw2, hw3, hw4⟩ := hW; go_simp; (try go_bits); (try rw [if_pos (by omega)]); (try with_reducible rfl)
      (try simp only [Act.put, List.setIfInBounds_toArray, List.set_cons_succ, List.set_cons_zero])
      refine wpE_take (i := 16) (oi := { dst := some 62, op := Go.Op.fieldAddr 26 (Go.Operand.tmp 61) 1, type := 0, pos := "law.go:144", after := #[{ on := 15, ground := Go.Ground.data }], guard := none }) (v := ?_) rfl (by kernel_rfl) (fun _ _ _ h => h) (Or.inl ⟨by rfl, fun W hW => ?_⟩) hS ?_
      rotate_left
      · obtain ⟨hw1, hw2, hw3, hw4⟩ := hW; go_simp; (try go_bits); (try rw [if_pos (by omega)]); (try with_reducible rfl)
      (try simp only [Act.put, List.setIfInBounds_toArray, List.set_cons_succ, List.set_cons_zero])
      refine wpE_take (i := 17) (oi := { dst := some 63, op := Go.Op.load 23 (Go.Operand.tmp 62), type := 23, pos := "law.go:144", after := #[{ on := 16, ground := Go.Ground.data }], guard := none }) (v := ?_) rfl (by kernel_rfl) (fun _ _ _ h => h) (Or.inl ⟨by rfl, fun W hW => ?_⟩) hS ?_
      rotate_left
      · obtain ⟨hw1, hw2, hw3, hw4⟩ := hW; go_simp; (try go_bits); (try rw [if_pos (by omega)]); (try with_reducible rfl)
      (try simp only [Act.put, List.setIfInBounds_toArray, List.set_cons_succ, List.set_cons_zero])
      refine wpE_only (i := 9) (oi := { dst := some 55, op := Go.Op.call { callee := Go.Callee.value (Go.Operand.func 6), args := #[Go.Operand.tmp 52, Go.Operand.tmp 54], argTypes := #[3, 3] }, type := 3, pos := "law.go:144", after := #[{ on := 6, ground := Go.Ground.data }, { on := 8, ground := Go.Ground.data }], guard := none }) rfl (by kernel_rfl) (by rfl) (fun K hK => ?_)
      go_simp; refine HP.out.mono ?_; rintro e wz ⟨rfl, rfl⟩; refine hK _ _ hS ?_; clear hK K
      (try simp only [Act.put, List.setIfInBounds_toArray, List.set_cons_succ, List.set_cons_zero])
      refine wpE_take (i := 10) (oi := { dst := some 56, op := Go.Op.convert 3 23 (Go.Operand.tmp 55), type := 23, pos := "law.go:144", after := #[{ on := 9, ground := Go.Ground.data }], guard := none }) (v := .int .u64 q) rfl (by kernel_rfl) (fun _ _ _ h => h) (Or.inl ⟨by rfl, fun W hW => ?_⟩) hS ?_
      · obtain ⟨hw1, hw2, hw3, hw4⟩ := hW; go_simp; (try go_bits); (try rw [if_pos (by omega)]); (try trivial)
      (try simp only [Act.put, List.setIfInBounds_toArray, List.set_cons_succ, List.set_cons_zero])
      refine wpE_take (i := 11) (oi := { dst := some 57, op := Go.Op.binOp Go.BinOp.mul 23 (Go.Operand.const (Go.Value.int Go.IntKind.u64 8)) (Go.Operand.tmp 56) 23, type := 23, pos := "law.go:144", after := #[{ on := 10, ground := Go.Ground.data }], guard := none }) (v := .int .u64 (8 * q)) rfl (by kernel_rfl) (fun _ _ _ h => h) (Or.inl ⟨by rfl, fun W hW => ?_⟩) hS ?_
      · obtain ⟨hw1, hw2, hw3, hw4⟩ := hW; go_simp; (try go_bits); (try rw [if_pos (by omega)]); (try trivial)
      (try simp only [Act.put, List.setIfInBounds_toArray, List.set_cons_succ, List.set_cons_zero])
      refine wpE_take (i := 12) (oi := { dst := some 58, op := Go.Op.binOp Go.BinOp.add 23 (Go.Operand.tmp 47) (Go.Operand.tmp 57) 23, type := 23, pos := "law.go:144", after := #[{ on := 1, ground := Go.Ground.data }, { on := 11, ground := Go.Ground.data }], guard := none }) (v := .int .u64 ((bs : Int) + 8 * q)) rfl (by kernel_rfl) (fun _ _ _ h => h) (Or.inl ⟨by rfl, fun W hW => ?_⟩) hS ?_
      · obtain ⟨hw1, hw2, hw3, hw4⟩ := hW; go_simp; (try go_bits); (try rw [if_pos (by omega)]); (try trivial)
      (try simp only [Act.put, List.setIfInBounds_toArray, List.set_cons_succ, List.set_cons_zero])
      refine wpE_last (oi := { dst := some 64, op := Go.Op.call { callee := Go.Callee.value (Go.Operand.func 47), args := #[Go.Operand.tmp 46, Go.Operand.tmp 58, Go.Operand.const (Go.Value.int Go.IntKind.i64 8), Go.Operand.tmp 63], argTypes := #[34, 23, 3, 23] }, type := 0, pos := "law.go:144", after := #[{ on := 0, ground := Go.Ground.data }, { on := 12, ground := Go.Ground.data }, { on := 17, ground := Go.Ground.data }, { on := 9, ground := Go.Ground.chain }], guard := none }) rfl (by kernel_rfl) (by kernel_rfl) (by rfl) (fun K hK => ?_)
      go_simp
      refine HW.out.mono ?_; rintro e w3 ⟨rfl, own4, hS4, hA4, hB4⟩
      have hb4 := hS4.blk H3.out.2.1.1 H3.out.2.1.2 (by omega)
      have ht4 := hS4.blk H3.out.2.2.1 H3.out.2.2.2 (by omega)
      rw [HE.out] at hA4 hB4
      have hS5 : Step (fun _ => False) own w own4 w3 := ⟨H3.out.1.upd.trans' hS4.upd (fun i hi e => by rw [H3.out.1.old i hi] at e; have := HFR.out i (by omega); omega), fun b hb => (hS4.old b (Nat.lt_of_lt_of_le hb H3.out.1.upd.size)).trans (H3.out.1.old b hb)⟩
      have H4 := Lib.hid (show ∃ own3, Step (fun _ => False) own w own3 w3 ∧ MemAt ramK own3 c1 w3 p1 bs n (cellsM n (fun _ => 0) (cs.take (k + 1))) ∧ MemAt refK own3 c2 w3 p2 bs n (cellsM n (fun _ => 0) (cs.take (k + 1))) ∧ Blk w3 xb 34 #[.pointer none, .pointer none] ∧ own3 xb = c1 + c2 + 1 ∧ Blk w3 xt 34 #[.pointer (some ⟨p1, 0, none⟩), .pointer (some ⟨p2, 0, none⟩)] ∧ own3 xt = c1 + c2 + 1 from ⟨own4, hS5, hA4, hB4, hb4.1, hb4.2, ht4.1, ht4.2⟩)
      clear hA4 hB4 hb4 ht4 hS4 hS5 HW HE
      refine hK _ _ ?_; clear hK K
      go_wp2
      exact ⟨⟨k + 1, by omega, by go_num, H4.out⟩, by simp [intOf]; omega⟩
    · obtain rfl : k = cs.length := by omega
      rw [List.take_length] at hMa hMb
      have hz0 := hbb.frozen 0
      have hz1 := hbb.frozen 1
      have hx0 := hbb.cell 0
      have hx1 := hbb.cell 1
      have hy0 := hbt.cell 0
      have hy1 := hbt.cell 1
      have hlb := hbb.lt
      have HX2 := Lib.hid (And.intro hS3 (And.intro (And.intro hMa hMb) (And.intro hbb hob)))
      clear hU3 hS3 hMa hMb hbb hob hbt hot HX
      go_wp2
      have hB := (HX2.out.2.2.1.set_ 0 (.pointer (some ⟨p1, 0, none⟩))).set_ 1 (.pointer (some ⟨p2, 0, none⟩))
      refine bodyPost_ret (results_cell_tmp_row rfl _ _ xb 34 #[.pointer (some ⟨p1, 0, none⟩), .pointer (some ⟨p2, 0, none⟩)] _ rfl hB Tryz.underlying34 rfl (by kernel_rfl)) rfl ?_
      have hst : Step (· = c1 + c2 + 1) own3 wr own3 ((wr.setCell ⟨xb, 0, none⟩ (.pointer (some ⟨p1, 0, none⟩))).setCell ⟨xb, 1, none⟩ (.pointer (some ⟨p2, 0, none⟩))) := ⟨((Upd.refl _ _).setCell (.inl HX2.out.2.2.2) _).setCell (.inl HX2.out.2.2.2) _, fun _ _ => rfl⟩
      have hU : Upd (· = xb) wr ((wr.setCell ⟨xb, 0, none⟩ (.pointer (some ⟨p1, 0, none⟩))).setCell ⟨xb, 1, none⟩ (.pointer (some ⟨p2, 0, none⟩))) := ((Upd.refl (· = xb) wr).setCell (p := ⟨xb, 0, none⟩) (.inl rfl) _).setCell (p := ⟨xb, 1, none⟩) (.inl rfl) _
      exact ⟨p1, p2, rfl, own3, ⟨HX2.out.1.upd.trans' hU (fun i hi e => by omega), HX2.out.1.old⟩, HX2.out.2.1.1.step hst (by omega), HX2.out.2.1.2.step hst (by omega)⟩
theorem law_MemoryB (bs : Nat) (hbs : bs ≤ 1099511627776) (hbs2 : bs % 4096 = 0) (n : Nat) (hn : 1 ≤ n) (hn2 : n ≤ 1024) (own : Nat → Nat) (c1 c2 : Nat) (hc : c1 ≠ c2) (w : World) (v : Value) (cs : List (Int × Nat)) (hv : CellsAt w v cs) (hlen : cs.length ≤ 9223372036854775807) (hb : ∀ x ∈ cs, -9223372036854775808 ≤ x.1 ∧ x.1 ≤ 9223372036854775807 ∧ x.2 < 18446744073709551616) :
    Calls Tryz.prog 20 #[.int .u64 (bs : Int), .int .i64 (n : Int), v] w fun e w' => ∃ p1 p2 own', e = .returned (.tuple #[.agg #[.pointer (some ⟨p1, 0, none⟩), .pointer (some ⟨p2, 0, none⟩)], .bool true]) ∧ Step (fun _ => False) own w own' w' ∧
      MemAt ramK own' c1 w' p1 bs n (cellsM n (fun _ => 0) cs) ∧ MemAt refK own' c2 w' p2 bs n (cellsM n (fun _ => 0) cs) := by
  refine (law_MemoryB0 bs hbs hbs2 n hn hn2 (fun b => if b < w.heap.size then 0 else 1) 2 3 (by decide) w (fun b hb => by simp only [if_pos hb]; decide) v cs hv hlen hb).mono ?_
  rintro e w' ⟨p1, p2, own3, rfl, hS, h1, h2⟩
  refine ⟨p1, p2, fun b => if b < w.heap.size then own b else if own3 b = 2 then c1 else c2, rfl, ⟨hS.upd, fun b hb => if_pos hb⟩, h1.recolC (fun b hb e => ?_), h2.recolC (fun b hb e => ?_)⟩
  · have hb2 : ¬ b < w.heap.size := fun h => by have := hS.old b h; simp only [if_pos h] at this; omega
    simp only [if_neg hb2, if_pos e]
  · have hb2 : ¬ b < w.heap.size := fun h => by have := hS.old b h; simp only [if_pos h] at this; omega
    simp only [if_neg hb2]
    rw [if_neg (by omega)]
end Go.Proofs.YtonhlgfgbdiapaaGreat
