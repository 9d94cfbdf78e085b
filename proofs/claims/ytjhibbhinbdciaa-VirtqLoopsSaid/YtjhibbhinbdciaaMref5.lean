import Derived.Test.YtjhibbhinbdciaaMref4
/- citadellaw00.Two: Write, Same. -/
namespace Go.Proofs.Ytjhibbhinbdciaa
set_option linter.unusedVariables false
open Go.RowKit
set_option maxRecDepth 100000

theorem ram_Bytes' {own : Nat → Nat} {c p base n : Nat} {m : Nat → Int} {w : World} (h : MemAt ramK own c w p base n m) (o s d : Nat) (hos : o + s ≤ n * 4096) (hd : d ≠ c) (a : Int) (ha : a = ((base + o : Nat) : Int)) :
    Calls Try.prog 44 #[.pointer (some ⟨p, 0, none⟩), .int .u64 a, .int .i64 (s : Int)] w fun e w' =>
      ∃ b own', e = .returned (.tuple #[.slice (some ⟨b, 0, none⟩) s s, .bool true]) ∧ Step (fun _ => False) own w own' w' ∧ own' b = d ∧ BytesAt w' b m o s := by
  subst ha; exact ram_Bytes h o s d hos hd
theorem two_Write {own : Nat → Nat} {c1 c2 p1 p2 n : Nat} {m : Nat → Int} {w : World} (hc : c1 ≠ c2) (h1 : MemAt ramK own c1 w p1 0 n m) (h2 : MemAt refK own c2 w p2 0 n m) (addr size v : Int) (ha0 : 0 ≤ addr) (ha1 : addr < 18446744073709551616) (hs0 : -9223372036854775808 ≤ size) (hs1 : size ≤ 9223372036854775807) (hv0 : 0 ≤ v) (hv1 : v < 18446744073709551616) :
    Calls Try.prog 15 #[.agg #[.pointer (some ⟨p1, 0, none⟩), .pointer (some ⟨p2, 0, none⟩)], .int .u64 addr, .int .i64 size, .int .u64 v] w fun e w' =>
      e = .returned (.tuple #[]) ∧ ∃ own', Step (fun x => x = c1 ∨ x = c2) own w own' w' ∧ MemAt ramK own' c1 w' p1 0 n (wrR 0 n m addr size v) ∧ MemAt refK own' c2 w' p2 0 n (wrR 0 n m addr size v) := by
  have hst : Step (fun _ => False) own w (ext own w (c1 + c2 + 1)) (w.alloc (.cells #[.pointer (some ⟨p1, 0, none⟩), .pointer (some ⟨p2, 0, none⟩)] 26)) := ⟨(Upd.refl _ _).alloc _, fun b hb => ext_old _ _ _ hb⟩
  have hB := Blk.new w 26 #[.pointer (some ⟨p1, 0, none⟩), .pointer (some ⟨p2, 0, none⟩)]
  have H0 := Lib.hid (And.intro hst (And.intro (h1.step hst (fun h => h)) (And.intro (h2.step hst (fun h => h)) (And.intro hB (show ext own w (c1 + c2 + 1) w.heap.size = c1 + c2 + 1 from ext_new _ _ _ (Nat.le_refl _))))))
  clear hst hB h1 h2
  have hbl := H0.out.2.2.2.1.cell 0
  simp only [List.getElem?_toArray, List.getElem?_cons_zero] at hbl
  go_enter Try.func15, Try.ntmps15
  go_wp2_with fail
  refine (ram_Write H0.out.2.1 addr size v ha0 ha1 hs0 hs1 hv0 hv1).mono ?_
  rintro e w1 ⟨rfl, own1, hS, hM⟩
  have hb1 := hS.blk H0.out.2.2.2.1 H0.out.2.2.2.2 (by omega)
  have hM2 := H0.out.2.2.1.step hS (fun h => hc h.symm)
  have H1 := Lib.hid (And.intro (H0.out.1.mono (C' := fun x => x = c1 ∨ x = c2) (fun _ h => h.elim) |>.trans (hS.mono (fun x h => Or.inl h))) (And.intro hM hM2))
  have hbl2 := hb1.1.cell 1
  simp only [List.getElem?_toArray, List.getElem?_cons_zero, List.getElem?_cons_succ] at hbl2
  clear hS hM hM2 hb1 H0 hbl
  go_wp2_with fail
  refine (mref_Write H1.out.2.2 addr size v ha0 ha1 hs0 hs1 hv0 hv1).mono ?_
  rintro e w2 ⟨rfl, own2, hS, hM⟩
  have H2 := Lib.hid (And.intro (H1.out.1.trans (hS.mono (fun x h => Or.inr h))) (And.intro (H1.out.2.1.step hS hc) hM))
  clear hS hM H1 hbl2
  go_wp2
  go_end0
  exact ⟨rfl, own2, H2.out⟩
theorem two_Same {own : Nat → Nat} {c1 c2 p1 p2 n : Nat} {m : Nat → Int} {w : World} (h1 : MemAt ramK own c1 w p1 0 n m) (h2 : MemAt refK own c2 w p2 0 n m) :
    Calls Try.prog 25 #[.agg #[.pointer (some ⟨p1, 0, none⟩), .pointer (some ⟨p2, 0, none⟩)]] w fun e w' =>
      e = .returned (.bool true) ∧ ∃ own', Step (fun _ => False) own w own' w' := by
  obtain ⟨_, hn1, hn2⟩ := h1.sizes
  have hst : Step (fun _ => False) own w (ext own w (c1 + c2 + 1)) (w.alloc (.cells #[.pointer (some ⟨p1, 0, none⟩), .pointer (some ⟨p2, 0, none⟩)] 26)) := ⟨(Upd.refl _ _).alloc _, fun b hb => ext_old _ _ _ hb⟩
  have hB := Blk.new w 26 #[.pointer (some ⟨p1, 0, none⟩), .pointer (some ⟨p2, 0, none⟩)]
  have H0 := Lib.hid (And.intro hst (And.intro (h1.step hst (fun h => h)) (And.intro (h2.step hst (fun h => h)) (And.intro hB (show ext own w (c1 + c2 + 1) w.heap.size = c1 + c2 + 1 from ext_new _ _ _ (Nat.le_refl _))))))
  clear hst hB h1 h2
  go_enter Try.func25, Try.ntmps25
  go_wp2
  generalize (w.alloc (.cells #[.pointer (some ⟨p1, 0, none⟩), .pointer (some ⟨p2, 0, none⟩)] 26)) = w1 at *
  generalize ext own w (c1 + c2 + 1) = own1 at *
  generalize w.heap.size = tb at *
  go_loopw [3] (fun i wr => ∃ (k : Nat), k ≤ n ∧ i = .int .i64 (k : Int) ∧ Hid (∃ own', Step (fun _ => False) own w own' wr ∧ MemAt ramK own' c1 wr p1 0 n m ∧ MemAt refK own' c2 wr p2 0 n m ∧ Blk wr tb 26 #[.pointer (some ⟨p1, 0, none⟩), .pointer (some ⟨p2, 0, none⟩)] ∧ own' tb = c1 + c2 + 1)) (fun i _ => n - (intOf i).toNat)
  case atStart => exact ⟨0, by omega, rfl, own1, H0.out⟩
  case round =>
    obtain ⟨k, hk, rfl, HR⟩ := hrel
    obtain ⟨own2, hS, hM1, hM2, hBt, hBo⟩ := HR.out
    have hb0 := hBt.cell 0
    have hb1 := hBt.cell 1
    simp only [List.getElem?_toArray, List.getElem?_cons_zero, List.getElem?_cons_succ] at hb0 hb1
    obtain ⟨q, fs, hIn, hfl⟩ := hM2
    have hc0 : wr.cell? ⟨p2, 0, none⟩ = some (.int .u64 0) := hIn.bp.cell 0
    have hc1 : wr.cell? ⟨p2, 1, none⟩ = some (.int .i64 (fs.length : Int)) := hIn.bp.cell 1
    rw [hfl] at hc1
    have H1 := Lib.hid (And.intro hS (And.intro hM1 (And.intro hIn (And.intro hBt hBo))))
    clear hS hM1 hIn hBt hBo HR H0
    by_cases hlt : k < n
    · have hlt' : (k : Int) < (n : Int) := by omega
      have hdr : Step (fun _ => False) own2 wr own2 wr.drew := (Step.refl _ _ _).drew
      have H1d := Lib.hid (And.intro (H1.out.1.trans hdr) (And.intro (H1.out.2.1.step hdr (fun h => h)) (And.intro (H1.out.2.2.1.step hdr (fun h => h)) (hdr.blk H1.out.2.2.2.1 H1.out.2.2.2.2 (fun h => h)))))
      clear hdr
      have HBy := Lib.hid (ram_Bytes' H1d.out.2.1 (k * 4096) 4096 (c1 + c2 + 1) (by omega) (by omega))
      have hkm : IntKind.u64.wrap ((k : Int) * 4096) = (k : Int) * 4096 := IntWalk.u64_in _ (by omega)
      go_wp2_with fail
      refine wpE_region (S := fun (W' : World) => W'.cell? ⟨tb, 0, none⟩ = some (.pointer (some ⟨p1, 0, none⟩)) ∧ W'.cell? ⟨tb, 1, none⟩ = some (.pointer (some ⟨p2, 0, none⟩)) ∧ W'.cell? ⟨p2, 0, none⟩ = some (.int .u64 0)) (s := 16) (by kernel_rfl) ?_
      have hS : (fun (W' : World) => W'.cell? ⟨tb, 0, none⟩ = some (.pointer (some ⟨p1, 0, none⟩)) ∧ W'.cell? ⟨tb, 1, none⟩ = some (.pointer (some ⟨p2, 0, none⟩)) ∧ W'.cell? ⟨p2, 0, none⟩ = some (.int .u64 0)) _ := ⟨hb0, hb1, hc0⟩
      refine wpE_take (i := 0) (oi := { dst := some 16, op := Go.Op.fieldAddr 26 (Go.Operand.tmp 1) 0, type := 0, pos := "law.go:164", after := #[], guard := none }) (v := ?_) rfl (by kernel_rfl) (fun _ _ _ h => h) (Or.inl ⟨by rfl, fun W hW => ?_⟩) hS ?_
      rotate_left
      · obtain ⟨hw1, hw2, hw3⟩ := hW; go_simp; (try go_bits); (try rw [if_pos (by omega)]); (try with_reducible rfl)
      (try simp only [Act.put, List.setIfInBounds_toArray, List.set_cons_succ, List.set_cons_zero])
      refine wpE_take (i := 1) (oi := { dst := some 17, op := Go.Op.load 23 (Go.Operand.tmp 16), type := 23, pos := "law.go:164", after := #[{ on := 0, ground := Go.Ground.data }], guard := none }) (v := ?_) rfl (by kernel_rfl) (fun _ _ _ h => h) (Or.inl ⟨by rfl, fun W hW => ?_⟩) hS ?_
      rotate_left
      · obtain ⟨hw1, hw2, hw3⟩ := hW; go_simp; (try go_bits); (try rw [if_pos (by omega)]); (try with_reducible rfl)
      (try simp only [Act.put, List.setIfInBounds_toArray, List.set_cons_succ, List.set_cons_zero])
      refine wpE_take (i := 2) (oi := { dst := some 18, op := Go.Op.fieldAddr 26 (Go.Operand.tmp 1) 1, type := 0, pos := "law.go:164", after := #[], guard := none }) (v := ?_) rfl (by kernel_rfl) (fun _ _ _ h => h) (Or.inl ⟨by rfl, fun W hW => ?_⟩) hS ?_
      rotate_left
      · obtain ⟨hw1, hw2, hw3⟩ := hW; go_simp; (try go_bits); (try rw [if_pos (by omega)]); (try with_reducible rfl)
      (try simp only [Act.put, List.setIfInBounds_toArray, List.set_cons_succ, List.set_cons_zero])
      refine wpE_take (i := 3) (oi := { dst := some 19, op := Go.Op.load 24 (Go.Operand.tmp 18), type := 24, pos := "law.go:164", after := #[{ on := 2, ground := Go.Ground.data }], guard := none }) (v := ?_) rfl (by kernel_rfl) (fun _ _ _ h => h) (Or.inl ⟨by rfl, fun W hW => ?_⟩) hS ?_
      rotate_left
      · obtain ⟨hw1, hw2, hw3⟩ := hW; go_simp; (try go_bits); (try rw [if_pos (by omega)]); (try with_reducible rfl)
      (try simp only [Act.put, List.setIfInBounds_toArray, List.set_cons_succ, List.set_cons_zero])
      refine wpE_take (i := 4) (oi := { dst := some 20, op := Go.Op.nilCheck (Go.Operand.tmp 19), type := 0, pos := "law.go:164", after := #[{ on := 3, ground := Go.Ground.data }], guard := none }) (v := ?_) rfl (by kernel_rfl) (fun _ _ _ h => h) (Or.inl ⟨by rfl, fun W hW => ?_⟩) hS ?_
      rotate_left
      · obtain ⟨hw1, hw2, hw3⟩ := hW; go_simp; (try go_bits); (try rw [if_pos (by omega)]); (try with_reducible rfl)
      (try simp only [Act.put, List.setIfInBounds_toArray, List.set_cons_succ, List.set_cons_zero])
      refine wpE_take (i := 5) (oi := { dst := some 21, op := Go.Op.fieldAddr 95 (Go.Operand.tmp 20) 0, type := 0, pos := "law.go:164", after := #[{ on := 4, ground := Go.Ground.data }], guard := none }) (v := ?_) rfl (by kernel_rfl) (fun _ _ _ h => h) (Or.inl ⟨by rfl, fun W hW => ?_⟩) hS ?_
      rotate_left
      · obtain ⟨hw1, hw2, hw3⟩ := hW; go_simp; (try go_bits); (try rw [if_pos (by omega)]); (try with_reducible rfl)
      (try simp only [Act.put, List.setIfInBounds_toArray, List.set_cons_succ, List.set_cons_zero])
      refine wpE_take (i := 6) (oi := { dst := some 22, op := Go.Op.load 29 (Go.Operand.tmp 21), type := 29, pos := "law.go:164", after := #[{ on := 5, ground := Go.Ground.data }], guard := none }) (v := ?_) rfl (by kernel_rfl) (fun _ _ _ h => h) (Or.inl ⟨by rfl, fun W hW => ?_⟩) hS ?_
      rotate_left
      · obtain ⟨hw1, hw2, hw3⟩ := hW; go_simp; (try go_bits); (try rw [if_pos (by omega)]); (try with_reducible rfl)
      (try simp only [Act.put, List.setIfInBounds_toArray, List.set_cons_succ, List.set_cons_zero])
      refine wpE_take (i := 7) (oi := { dst := some 23, op := Go.Op.move (Go.Operand.tmp 3), type := 3, pos := "law.go:164", after := #[], guard := none }) (v := ?_) rfl (by kernel_rfl) (fun _ _ _ h => h) (Or.inl ⟨by rfl, fun W hW => ?_⟩) hS ?_
      rotate_left
      · obtain ⟨hw1, hw2, hw3⟩ := hW; go_simp; (try go_bits); (try rw [if_pos (by omega)]); (try with_reducible rfl)
      (try simp only [Act.put, List.setIfInBounds_toArray, List.set_cons_succ, List.set_cons_zero])
      refine wpE_take (i := 8) (oi := { dst := some 24, op := Go.Op.convert 3 29 (Go.Operand.tmp 23), type := 29, pos := "law.go:164", after := #[{ on := 7, ground := Go.Ground.data }], guard := none }) (v := .int .u64 (k : Int)) rfl (by kernel_rfl) (fun _ _ _ h => h) (Or.inl ⟨by rfl, fun W hW => ?_⟩) hS ?_
      · obtain ⟨hw1, hw2, hw3⟩ := hW; go_simp; (try go_bits); (try trivial)
      (try simp only [Act.put, List.setIfInBounds_toArray, List.set_cons_succ, List.set_cons_zero])
      refine wpE_take (i := 9) (oi := { dst := some 25, op := Go.Op.binOp Go.BinOp.mul 29 (Go.Operand.tmp 24) (Go.Operand.const (Go.Value.int Go.IntKind.u64 4096)) 29, type := 29, pos := "law.go:164", after := #[{ on := 8, ground := Go.Ground.data }], guard := none }) (v := .int .u64 ((k : Int) * 4096)) rfl (by kernel_rfl) (fun _ _ _ h => h) (Or.inl ⟨by rfl, fun W hW => ?_⟩) hS ?_
      · obtain ⟨hw1, hw2, hw3⟩ := hW; go_simp; (try rw [hkm])
      (try simp only [Act.put, List.setIfInBounds_toArray, List.set_cons_succ, List.set_cons_zero])
      refine wpE_take (i := 10) (oi := { dst := some 26, op := Go.Op.binOp Go.BinOp.add 29 (Go.Operand.tmp 22) (Go.Operand.tmp 25) 29, type := 29, pos := "law.go:164", after := #[{ on := 6, ground := Go.Ground.data }, { on := 9, ground := Go.Ground.data }], guard := none }) (v := .int .u64 ((k : Int) * 4096)) rfl (by kernel_rfl) (fun _ _ _ h => h) (Or.inl ⟨by rfl, fun W hW => ?_⟩) hS ?_
      · obtain ⟨hw1, hw2, hw3⟩ := hW; go_simp; (try rw [hkm])
      (try simp only [Act.put, List.setIfInBounds_toArray, List.set_cons_succ, List.set_cons_zero])
      refine wpE_only (i := 11) (oi := { dst := some 27, op := Go.Op.call { callee := Go.Callee.value (Go.Operand.func 44), args := #[Go.Operand.tmp 17, Go.Operand.tmp 26, Go.Operand.const (Go.Value.int Go.IntKind.i64 4096)], argTypes := #[23, 29, 3] }, type := 96, pos := "law.go:164", after := #[{ on := 1, ground := Go.Ground.data }, { on := 10, ground := Go.Ground.data }], guard := none }) rfl (by kernel_rfl) (by rfl) (fun K hK => ?_)
      go_simp
      refine (HBy.out _ (by omega)).mono ?_; rintro e w3 ⟨b, own3, rfl, hS3, hbo3, hby⟩
      have hB3 := hS3.blk H1d.out.2.2.2.1 H1d.out.2.2.2.2 (fun h => h)
      have hIn3 := H1d.out.2.2.1.step hS3 (fun h => h)
      have hM3 := H1d.out.2.1.step hS3 (fun h => h)
      have hS : w3.cell? ⟨tb, 0, none⟩ = some (.pointer (some ⟨p1, 0, none⟩)) ∧ w3.cell? ⟨tb, 1, none⟩ = some (.pointer (some ⟨p2, 0, none⟩)) ∧ w3.cell? ⟨p2, 0, none⟩ = some (.int .u64 0) := ⟨hB3.1.cell 0, hB3.1.cell 1, hIn3.bp.cell 0⟩
      have H3 := Lib.hid (And.intro (H1d.out.1.trans hS3) (And.intro hM3 (And.intro hIn3 (And.intro hB3 hby))))
      clear hB3 hIn3 hM3 hS3 hby hbo3
      refine hK _ _ hS ?_; clear hK K
      (try simp only [Act.put, List.setIfInBounds_toArray, List.set_cons_succ, List.set_cons_zero])
      refine wpE_take (i := 12) (oi := { dst := some 15, op := Go.Op.move (Go.Operand.tmp 27), type := 96, pos := "law.go:164", after := #[{ on := 11, ground := Go.Ground.data }], guard := none }) (v := ?_) rfl (by kernel_rfl) (fun _ _ _ h => h) (Or.inl ⟨by rfl, fun W hW => ?_⟩) hS ?_
      rotate_left
      · obtain ⟨hw1, hw2, hw3⟩ := hW; go_simp; (try go_bits); (try rw [if_pos (by omega)]); (try with_reducible rfl)
      (try simp only [Act.put, List.setIfInBounds_toArray, List.set_cons_succ, List.set_cons_zero])
      refine wpE_take (i := 13) (oi := { dst := some 28, op := Go.Op.extract (Go.Operand.tmp 15) 0, type := 56, pos := "law.go:164", after := #[{ on := 12, ground := Go.Ground.data }], guard := none }) (v := ?_) rfl (by kernel_rfl) (fun _ _ _ h => h) (Or.inl ⟨by rfl, fun W hW => ?_⟩) hS ?_
      rotate_left
      · obtain ⟨hw1, hw2, hw3⟩ := hW; go_simp; (try go_bits); (try rw [if_pos (by omega)]); (try with_reducible rfl)
      (try simp only [Act.put, List.setIfInBounds_toArray, List.set_cons_succ, List.set_cons_zero])
      refine wpE_take (i := 14) (oi := { dst := some 29, op := Go.Op.extract (Go.Operand.tmp 15) 1, type := 4, pos := "law.go:164", after := #[{ on := 12, ground := Go.Ground.data }, { on := 15, ground := Go.Ground.gcOnly Go.Departure.lateStores }], guard := none }) (v := ?_) rfl (by kernel_rfl) (fun _ _ _ h => h) (Or.inl ⟨by rfl, fun W hW => ?_⟩) hS ?_
      rotate_left
      · obtain ⟨hw1, hw2, hw3⟩ := hW; go_simp; (try go_bits); (try rw [if_pos (by omega)]); (try with_reducible rfl)
      (try simp only [Act.put, List.setIfInBounds_toArray, List.set_cons_succ, List.set_cons_zero])
      refine wpE_only (i := 15) (oi := { dst := some 4, op := Go.Op.assign (Go.Operand.tmp 28), type := 56, pos := "law.go:164", after := #[{ on := 13, ground := Go.Ground.data }, { on := 11, ground := Go.Ground.chain }, { on := 0, ground := Go.Ground.phase }, { on := 1, ground := Go.Ground.phase }, { on := 2, ground := Go.Ground.phase }, { on := 3, ground := Go.Ground.phase }, { on := 4, ground := Go.Ground.phase }, { on := 5, ground := Go.Ground.phase }, { on := 6, ground := Go.Ground.phase }, { on := 7, ground := Go.Ground.phase }, { on := 8, ground := Go.Ground.phase }, { on := 9, ground := Go.Ground.phase }, { on := 10, ground := Go.Ground.phase }, { on := 11, ground := Go.Ground.phase }, { on := 12, ground := Go.Ground.phase }, { on := 13, ground := Go.Ground.phase }, { on := 14, ground := Go.Ground.textOnly Go.Departure.lateStores }], guard := none }) rfl (by kernel_rfl) (by rfl) (fun K hK => ?_)
      go_simp; (try go_bits); refine hK _ _ hS ?_; clear hK K
      (try simp only [Act.put, List.setIfInBounds_toArray, List.set_cons_succ, List.set_cons_zero])
      refine wpE_last (oi := { dst := some 5, op := Go.Op.assign (Go.Operand.tmp 29), type := 4, pos := "law.go:164", after := #[{ on := 14, ground := Go.Ground.data }, { on := 15, ground := Go.Ground.chain }, { on := 0, ground := Go.Ground.phase }, { on := 1, ground := Go.Ground.phase }, { on := 2, ground := Go.Ground.phase }, { on := 3, ground := Go.Ground.phase }, { on := 4, ground := Go.Ground.phase }, { on := 5, ground := Go.Ground.phase }, { on := 6, ground := Go.Ground.phase }, { on := 7, ground := Go.Ground.phase }, { on := 8, ground := Go.Ground.phase }, { on := 9, ground := Go.Ground.phase }, { on := 10, ground := Go.Ground.phase }, { on := 11, ground := Go.Ground.phase }, { on := 12, ground := Go.Ground.phase }, { on := 13, ground := Go.Ground.phase }, { on := 14, ground := Go.Ground.phase }, { on := 15, ground := Go.Ground.phase }], guard := none }) rfl (by kernel_rfl) (by kernel_rfl) (by rfl) (fun K hK => ?_)
      go_simp; (try go_bits); refine hK _ _ ?_; clear hK K
      obtain ⟨hx0, hx1, _⟩ := hS
      have hy2 : w3.cell? ⟨p2, 2, none⟩ = some (.slice (some ⟨q, 0, none⟩) fs.length fs.length) := H3.out.2.2.1.bp.cell 2
      have hq := H3.out.2.2.1.cellq k
      rw [List.getElem?_eq_getElem (by omega), Option.map_some] at hq
      have qn := bytes_nil
      have hfl' : k < fs.length := by omega
      rcases hf : fs[k] with _ | bf
      · rw [hf] at hq
        simp only [refK, slV] at hq
        have hgo : ∀ j, j < 4096 → m (k * 4096 + j) = 0 := H3.out.2.2.1.gone k (by rw [List.getElem?_eq_getElem hfl', hf])
        have HZ := Lib.hid (law_zero H3.out.2.2.2.2 hgo)
        clear hgo hf
        go_wp2_with fail
        refine HZ.out.mono ?_; rintro e wz ⟨rfl, rfl⟩
        go_wp2
        exact ⟨⟨k + 1, by omega, by go_num, own3, H3.out.1, H3.out.2.1, ⟨q, fs, H3.out.2.2.1, hfl⟩, H3.out.2.2.2.1⟩, by simp [intOf]; omega⟩
      · rw [hf] at hq
        simp only [refK, slV] at hq
        obtain ⟨_, hfr⟩ := H3.out.2.2.1.there k bf (by rw [List.getElem?_eq_getElem hfl', hf])
        have HZ := Lib.hid (law_SameBytes (ca := 4096) (cb := 4096) (by omega) H3.out.2.2.2.2 (show BytesAt w3 bf m (k * 4096) 4096 from hfr) (fun _ _ => rfl))
        clear hfr hf
        go_wp2_with fail
        refine HZ.out.mono ?_; rintro e wz ⟨rfl, z, rfl⟩
        have hst : Step (fun _ => False) own3 w3 own3 (w3.drewN z) := (Step.refl _ _ _).drewN z
        go_wp2
        exact ⟨⟨k + 1, by omega, by go_num, own3, H3.out.1.trans hst, H3.out.2.1.step hst (fun h => h), ⟨q, fs, H3.out.2.2.1.step hst (fun h => h), hfl⟩, hst.blk H3.out.2.2.2.1.1 H3.out.2.2.2.1.2 (fun h => h)⟩, by simp [intOf]; omega⟩
    · obtain rfl : k = n := by omega
      go_wp2
      go_ret
      exact ⟨rfl, own2, H1.out.1⟩
end Go.Proofs.Ytjhibbhinbdciaa
