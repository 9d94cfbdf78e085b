import Derived.Test.YtpodeclkgcgpgaaBoth
/- FramePlays' walk -/
namespace Go.Proofs.Ytpodeclkgcgpgaa
set_option linter.unusedVariables false
open Go.RowKit
set_option maxRecDepth 100000

theorem ackP_zlen (h n : Nat) (s : PSt) (k : Int) : (ackP h n s.z k).z.ow.length = s.ow.length := ackP_len h n s.z k
set_option maxHeartbeats 4000000 in
theorem plays_calls (frames reserved harts : Int) (hf : wfI frames) (hr : wfI reserved) (hh : wfI harts) (A : Option Addr) (cap m : Nat) (xs : List Value) (w : World)
    (hrd : Reads w w.heap.size 3 A m xs) (hm : m ≤ 9223372036854775807) (hx : ∀ i, i < m → ∃ k a v, Op3 xs i k a v ∧ wfI k ∧ wfI a ∧ wfU v) :
    Calls Try.prog 7 #[.int .i64 frames, .int .i64 reserved, .int .i64 harts, .slice A m cap] w fun e w' => e = .returned (.bool true) ∧ Upd (fun _ => False) w w' := by
  have HX := Lib.hid (And.intro hrd hx)
  clear hrd hx
  obtain ⟨k0, hk0, _, HP0⟩ := place_nat frames 12 w hf (by omega) (by omega)
  have HPa := Lib.hid HP0
  clear HP0
  go_enter Try.func7, Try.ntmps7
  go_wp2_with fail
  refine HPa.out.mono ?_; rintro e wz ⟨rfl, rfl⟩
  clear HPa
  have hMem := law_Memory (1 + k0) (by omega) (by omega) (fun _ => 0) 1 2 (by omega) w
  rw [show ((1 + k0 : Nat) : Int) = 1 + (k0 : Int) from by omega] at hMem
  go_wp2_with fail
  refine hMem.mono ?_
  clear hMem
  rintro e w1 ⟨p1, p2, own1, rfl, hS1, hM1, hM2⟩
  have hA : Step (fun _ => False) own1 w1 (ext own1 w1 0) (w1.alloc (.cells #[.pointer (some ⟨p1, 0, none⟩), .pointer (some ⟨p2, 0, none⟩)] 27)) := ⟨(Upd.refl _ _).alloc _, fun b hb => ext_old _ _ _ hb⟩
  have hB := Blk.new w1 27 #[.pointer (some ⟨p1, 0, none⟩), .pointer (some ⟨p2, 0, none⟩)]
  have H1 := Lib.hid (And.intro (hS1.trans hA) (And.intro (hM1.step hA (fun h => h)) (And.intro (hM2.step hA (fun h => h)) (And.intro hB (show ext own1 w1 0 w1.heap.size = 0 from ext_new own1 w1 0 (Nat.le_refl _))))))
  clear hA hB hS1 hM1 hM2
  by_cases hok : 0 ≤ reserved ∧ reserved ≤ ((1 + k0 : Nat) : Int) ∧ 1 ≤ harts ∧ harts ≤ 8
  · obtain ⟨r0, r1, h1, h8⟩ := hok
    obtain ⟨r, rfl⟩ := Int.eq_ofNat_of_zero_le r0
    obtain ⟨h, rfl⟩ := Int.eq_ofNat_of_zero_le (show 0 ≤ harts by omega)
    have hrn : r ≤ 1 + k0 := by omega
    have hh8 : 1 ≤ h ∧ h ≤ 8 := by omega
    have HN := Lib.hid (pool_New H1.out.2.1 r h hrn hh8.1 hh8.2 3)
    clear r0 r1 h1 h8
    go_wp2_with fail
    refine HN.out.mono ?_; rintro e w3 ⟨pp, own3, rfl, hS2, hP2⟩
    have hM3 := H1.out.2.1.step hS2 (fun h => h)
    have hM4 := H1.out.2.2.1.step hS2 (fun h => h)
    have hB3 := hS2.blk H1.out.2.2.2.1 H1.out.2.2.2.2 (fun h => h)
    have H2 := Lib.hid (And.intro (H1.out.1.trans hS2) (And.intro hP2 (And.intro hM3 (And.intro hM4 hB3))))
    clear hS2 hP2 hM3 hM4 hB3 H1 HN
    generalize w1.heap.size = tb at *
    have hbl := H2.out.2.2.2.2.1.cell 1
    simp only [List.getElem?_toArray, List.getElem?_cons_zero, List.getElem?_cons_succ] at hbl
    have HN := Lib.hid (pr_New H2.out.2.2.2.1 r h hrn hh8.1 hh8.2 4 (by omega))
    go_wp2_with fail
    refine HN.out.mono ?_; rintro e w4 ⟨pq, own4, rfl, hS3, hP3⟩
    have hbs : BS w pp p1 pq p2 (1 + k0) r h own4 w4 ⟨initO (1 + k0) r, List.replicate (1 + k0) 0, fun _ => 0, 0⟩ ⟨initO (1 + k0) r, List.replicate (1 + k0) 0, fun _ => 0, 0⟩ :=
      ⟨(H2.out.1.trans hS3).mono (fun _ h => h.elim), ⟨H2.out.2.1.step hS3 (fun h => h), H2.out.2.2.1.step hS3 (fun h => h)⟩, hP3, H2.out.2.2.2.1.step hS3 (fun h => h)⟩
    have hB4 := hS3.blk H2.out.2.2.2.2.1 H2.out.2.2.2.2.2 (fun h => h)
    have H3 := Lib.hid (And.intro hbs hB4)
    clear hS3 hP3 hbs hB4 H2 HN hbl
    go_wp2
    go_loopw [16] (fun i wr => ∃ (k : Nat), k ≤ m ∧ i = .int .i64 (k : Int) ∧ Hid (∃ own' s, BS w pp p1 pq p2 (1 + k0) r h own' wr s s ∧ s.ow.length = 1 + k0 ∧ (Blk wr tb 27 #[.pointer (some ⟨p1, 0, none⟩), .pointer (some ⟨p2, 0, none⟩)] ∧ own' tb = 0))) (fun i _ => m - (intOf i).toNat)
    case atStart => exact ⟨0, by omega, rfl, own4, _, H3.out.1, initO_len hrn, H3.out.2⟩
    case round =>
      rename World => wo
      obtain ⟨k, hk, rfl, HR⟩ := hrel
      by_cases hlt : k < m
      · have hlt' : (k : Int) < (m : Int) := by omega
        obtain ⟨b, o, rfl, hbw, hcs⟩ := HX.out.1.start (by omega) (by omega)
        obtain ⟨kd, a, v, ⟨x0, x1, x2⟩, hkd, ha, hv⟩ := HX.out.2 k hlt
        obtain ⟨own5, s, hSt, hln, htb⟩ := HR.out
        have c0 := (hSt.upd.cell hbw (fun h => h)).trans (hcs _ _ x0)
        have c1 := (hSt.upd.cell hbw (fun h => h)).trans (hcs _ _ x1)
        have c2 := (hSt.upd.cell hbw (fun h => h)).trans (hcs _ _ x2)
        simp only [← Nat.add_assoc] at c1 c2
        have hxb := Blk.new wo 36 #[.int .i64 kd, .int .i64 a, .int .u64 v]
        have hst : Step (fun x => x ≠ 0) own5 wo (ext own5 wo 0) (wo.alloc (.cells #[.int .i64 kd, .int .i64 a, .int .u64 v] 36)) := ⟨(Upd.refl _ _).alloc _, fun b hb => ext_old _ _ _ hb⟩
        have H4 := Lib.hid (And.intro (hSt.newc ((Upd.refl (fun _ => False) wo).alloc (.cells #[.int .i64 kd, .int .i64 a, .int .u64 v] 36))) (And.intro hln (And.intro (hst.locB htb) (And.intro hxb (show ext own5 wo 0 wo.heap.size = 0 from ext_new _ _ _ (Nat.le_refl _))))))
        have d0 := hxb.cell 0
        have d1 := hxb.cell 1
        have d2 := hxb.cell 2
        simp only [List.getElem?_toArray, List.getElem?_cons_succ, List.getElem?_cons_zero] at d0 d1 d2
        obtain ⟨pv, hpv, _, HPv0⟩ := place_nat kd 5 (wo.alloc (.cells #[.int .i64 kd, .int .i64 a, .int .u64 v] 36)) hkd (by omega) (by omega)
        have HPv := Lib.hid HPv0
        clear x0 x1 x2 hcs hSt hln htb hst hxb HR HPv0
        go_wp2_with fail
        refine HPv.out.mono ?_; rintro e wz ⟨rfl, rfl⟩
        clear HPv c0 c1 c2
        generalize (wo.alloc (.cells #[.int .i64 kd, .int .i64 a, .int .u64 v] 36)) = W at *
        generalize ext own5 wo 0 = own6 at *
        generalize wo.heap.size = xb at *
        have hcs : pv = 0 ∨ pv = 1 ∨ pv = 2 ∨ pv = 3 ∨ pv = 4 := by omega
        go_upto_block 2 with fail
        go_cut [18] (fun sm wx => sm = .bool true ∧ Hid (∃ own' s', BS w pp p1 pq p2 (1 + k0) r h own' wx s' s' ∧ s'.ow.length = 1 + k0 ∧ (Blk wx tb 27 #[.pointer (some ⟨p1, 0, none⟩), .pointer (some ⟨p2, 0, none⟩)] ∧ own' tb = 0)))
        case first =>
          rcases hcs with rfl | rfl | rfl | rfl | rfl
          · have hT := bs_Take H4.out.1 a
            have hL := (takeP_len s.ow a).trans H4.out.2.1
            obtain ⟨tk, htk⟩ : ∃ tk, takeP s.ow a = tk := ⟨_, rfl⟩
            rw [htk] at hT hL
            have HT := Lib.hid hT
            clear hT
            go_wp2_with fail
            refine HT.out.mono ?_; rintro e wy ⟨rfl, own7, hS, hSt⟩
            have hl := hS.locB H4.out.2.2.2
            have ht := hS.locB H4.out.2.2.1
            have g1 := hl.1.cell 1
            simp only [List.getElem?_toArray, List.getElem?_cons_succ, List.getElem?_cons_zero] at g1
            have hT := bs_TakeR hSt a
            rw [htk] at hT
            have HT2 := Lib.hid hT
            have H5 := Lib.hid (And.intro ht hL)
            clear hT hS hSt hl ht HT d0 d1 d2 H4 htk hL
            go_wp2_with fail
            refine HT2.out.mono ?_; rintro e wy2 ⟨rfl, own8, hS, hSt⟩
            have H6 := Lib.hid (show ∃ own' s', BS w pp p1 pq p2 (1 + k0) r h own' wy2 s' s' ∧ s'.ow.length = 1 + k0 ∧ (Blk wy2 tb 27 #[.pointer (some ⟨p1, 0, none⟩), .pointer (some ⟨p2, 0, none⟩)] ∧ own' tb = 0) from ⟨own8, _, hSt, H5.out.2, hS.locB H5.out.1⟩)
            clear hS hSt HT2 H5 g1
            go_wp2
            go_meet
            exact ⟨rfl, H6.out⟩
          · have hT := bs_Rel hh8.2 (H4.out.1.new (Upd.refl _ _).drew) a
            have hL := (relP_len r h s a).trans H4.out.2.1
            have HT := Lib.hid hT
            have HL := Lib.hid hL
            have hst : Step (fun x => x ≠ 0) own6 W own6 W.drew := (Step.refl _ _ _).drew
            have H4d := Lib.hid (And.intro (hst.locB H4.out.2.2.1) (hst.locB H4.out.2.2.2))
            clear hT hL d0 d2 H4 hst
            obtain ⟨ev, hev⟩ : ∃ ev, (if relOk r s.ow a = true then (0 : Int) else 11) = ev := ⟨_, rfl⟩
            rw [hev] at HT
            go_wp2_with fail
            refine wpE_region (S := fun (W' : World) => W'.cell? ⟨xb, 1, none⟩ = some (.int .i64 a)) (s := 9) (by kernel_rfl) ?_
            have hS : (fun (W' : World) => W'.cell? ⟨xb, 1, none⟩ = some (.int .i64 a)) _ := d1
            refine wpE_take (i := 0) (oi := { dst := some 104, op := Go.Op.move (Go.Operand.tmp 12), type := 31, pos := "law.go:55", after := #[], guard := none }) (v := ?_) rfl (by kernel_rfl) (fun _ _ _ h => h) (Or.inl ⟨by rfl, fun W hW => ?_⟩) hS ?_
            rotate_left
            · (have hw1 : W.cell? ⟨xb, 1, none⟩ = some (.int .i64 a) := hW); go_simp; (try go_bits); (try rw [if_pos (by omega)]); (try with_reducible rfl)
            (try simp only [Act.put, List.setIfInBounds_toArray, List.set_cons_succ, List.set_cons_zero])
            refine wpE_take (i := 1) (oi := { dst := some 105, op := Go.Op.fieldAddr 36 (Go.Operand.tmp 17) 1, type := 0, pos := "law.go:55", after := #[], guard := none }) (v := ?_) rfl (by kernel_rfl) (fun _ _ _ h => h) (Or.inl ⟨by rfl, fun W hW => ?_⟩) hS ?_
            rotate_left
            · (have hw1 : W.cell? ⟨xb, 1, none⟩ = some (.int .i64 a) := hW); go_simp; (try go_bits); (try rw [if_pos (by omega)]); (try with_reducible rfl)
            (try simp only [Act.put, List.setIfInBounds_toArray, List.set_cons_succ, List.set_cons_zero])
            refine wpE_take (i := 2) (oi := { dst := some 106, op := Go.Op.load 3 (Go.Operand.tmp 105), type := 3, pos := "law.go:55", after := #[{ on := 1, ground := Go.Ground.data }], guard := none }) (v := ?_) rfl (by kernel_rfl) (fun _ _ _ h => h) (Or.inl ⟨by rfl, fun W hW => ?_⟩) hS ?_
            rotate_left
            · (have hw1 : W.cell? ⟨xb, 1, none⟩ = some (.int .i64 a) := hW); go_simp; (try go_bits); (try rw [if_pos (by omega)]); (try with_reducible rfl)
            (try simp only [Act.put, List.setIfInBounds_toArray, List.set_cons_succ, List.set_cons_zero])
            refine wpE_take (i := 4) (oi := { dst := some 108, op := Go.Op.move (Go.Operand.tmp 14), type := 52, pos := "law.go:55", after := #[], guard := none }) (v := ?_) rfl (by kernel_rfl) (fun _ _ _ h => h) (Or.inl ⟨by rfl, fun W hW => ?_⟩) hS ?_
            rotate_left
            · (have hw1 : W.cell? ⟨xb, 1, none⟩ = some (.int .i64 a) := hW); go_simp; (try go_bits); (try rw [if_pos (by omega)]); (try with_reducible rfl)
            (try simp only [Act.put, List.setIfInBounds_toArray, List.set_cons_succ, List.set_cons_zero])
            refine wpE_take (i := 5) (oi := { dst := some 109, op := Go.Op.fieldAddr 36 (Go.Operand.tmp 17) 1, type := 0, pos := "law.go:55", after := #[], guard := none }) (v := ?_) rfl (by kernel_rfl) (fun _ _ _ h => h) (Or.inl ⟨by rfl, fun W hW => ?_⟩) hS ?_
            rotate_left
            · (have hw1 : W.cell? ⟨xb, 1, none⟩ = some (.int .i64 a) := hW); go_simp; (try go_bits); (try rw [if_pos (by omega)]); (try with_reducible rfl)
            (try simp only [Act.put, List.setIfInBounds_toArray, List.set_cons_succ, List.set_cons_zero])
            refine wpE_take (i := 6) (oi := { dst := some 110, op := Go.Op.load 3 (Go.Operand.tmp 109), type := 3, pos := "law.go:55", after := #[{ on := 5, ground := Go.Ground.data }], guard := none }) (v := ?_) rfl (by kernel_rfl) (fun _ _ _ h => h) (Or.inl ⟨by rfl, fun W hW => ?_⟩) hS ?_
            rotate_left
            · (have hw1 : W.cell? ⟨xb, 1, none⟩ = some (.int .i64 a) := hW); go_simp; (try go_bits); (try rw [if_pos (by omega)]); (try with_reducible rfl)
            (try simp only [Act.put, List.setIfInBounds_toArray, List.set_cons_succ, List.set_cons_zero])
            refine wpE_only (i := 3) (oi := { dst := some 107, op := Go.Op.call { callee := Go.Callee.value (Go.Operand.func 21), args := #[Go.Operand.tmp 104, Go.Operand.tmp 106], argTypes := #[31, 3] }, type := 32, pos := "law.go:55", after := #[{ on := 0, ground := Go.Ground.data }, { on := 2, ground := Go.Ground.data }], guard := none }) rfl (by kernel_rfl) (by rfl) (fun K hK => ?_)
            go_simp
            refine HT.out.mono ?_; rintro e wy ⟨rfl, own7, hS7, hSt⟩
            have hl := hS7.locB H4d.out.2
            have hT := bs_RelR hh8.2 hSt a
            rw [hev] at hT
            have HT2 := Lib.hid hT
            have H5 := Lib.hid (And.intro (hS7.locB H4d.out.1) hl)
            have hS : wy.cell? ⟨xb, 1, none⟩ = some (.int .i64 a) := hl.1.cell 1
            clear hT hSt hl HT H4d hS7
            refine hK _ _ hS ?_; clear hK K
            (try simp only [Act.put, List.setIfInBounds_toArray, List.set_cons_succ, List.set_cons_zero])
            refine wpE_only (i := 7) (oi := { dst := some 111, op := Go.Op.call { callee := Go.Callee.value (Go.Operand.func 32), args := #[Go.Operand.tmp 108, Go.Operand.tmp 110], argTypes := #[52, 3] }, type := 3, pos := "law.go:55", after := #[{ on := 4, ground := Go.Ground.data }, { on := 6, ground := Go.Ground.data }, { on := 3, ground := Go.Ground.chain }], guard := none }) rfl (by kernel_rfl) (by rfl) (fun K hK => ?_)
            go_simp
            refine HT2.out.mono ?_; rintro e wy2 ⟨rfl, own8, hS8, hSt⟩
            have H6 := Lib.hid (show ∃ own' s', BS w pp p1 pq p2 (1 + k0) r h own' wy2 s' s' ∧ s'.ow.length = 1 + k0 ∧ (Blk wy2 tb 27 #[.pointer (some ⟨p1, 0, none⟩), .pointer (some ⟨p2, 0, none⟩)] ∧ own' tb = 0) from ⟨own8, _, hSt, HL.out, hS8.locB H5.out.1⟩)
            have hS : wy2.cell? ⟨xb, 1, none⟩ = some (.int .i64 a) := (hS8.locB H5.out.2).1.cell 1
            clear hSt HT2 H5 hS8
            refine hK _ _ hS ?_; clear hK K
            (try simp only [Act.put, List.setIfInBounds_toArray, List.set_cons_succ, List.set_cons_zero])
            refine wpE_take (i := 8) (oi := { dst := some 112, op := Go.Op.binOp Go.BinOp.eql 3 (Go.Operand.tmp 107) (Go.Operand.tmp 111) 3, type := 4, pos := "law.go:55", after := #[{ on := 3, ground := Go.Ground.data }, { on := 7, ground := Go.Ground.data }], guard := none }) (v := ?_) rfl (by kernel_rfl) (fun _ _ _ h => h) (Or.inl ⟨by rfl, fun W hW => ?_⟩) hS ?_
            rotate_left
            · (have hw1 : W.cell? ⟨xb, 1, none⟩ = some (.int .i64 a) := hW); go_simp; (try go_bits); (try rw [if_pos (by omega)]); (try with_reducible rfl)
            (try simp only [Act.put, List.setIfInBounds_toArray, List.set_cons_succ, List.set_cons_zero])
            refine wpE_last (oi := { dst := some 18, op := Go.Op.assign (Go.Operand.tmp 112), type := 4, pos := "law.go:55", after := #[{ on := 8, ground := Go.Ground.data }, { on := 7, ground := Go.Ground.chain }, { on := 0, ground := Go.Ground.phase }, { on := 1, ground := Go.Ground.phase }, { on := 2, ground := Go.Ground.phase }, { on := 3, ground := Go.Ground.phase }, { on := 4, ground := Go.Ground.phase }, { on := 5, ground := Go.Ground.phase }, { on := 6, ground := Go.Ground.phase }, { on := 7, ground := Go.Ground.phase }, { on := 8, ground := Go.Ground.phase }], guard := none }) rfl (by kernel_rfl) (by kernel_rfl) (by rfl) (fun K hK => ?_)
            go_simp; (try go_bits); refine hK _ _ ?_; clear hK K
            clear hS
            go_wp2
            go_meet
            exact ⟨rfl, H6.out⟩
          · obtain ⟨kv, hkv, hcv⟩ : ∃ kv : Int, (wfI kv ∧ kv ≠ 63) ∧ ((a = 63 ∧ kv = 62) ∨ ((a == 63) = false ∧ kv = a)) := by
              by_cases e : a = 63
              · exact ⟨62, ⟨by unfold wfI; omega, by omega⟩, Or.inl ⟨e, rfl⟩⟩
              · exact ⟨a, ⟨ha, e⟩, Or.inr ⟨by simpa using e, rfl⟩⟩
            have hT := bs_Ack hh8.2 H4.out.1 kv hkv.1
            have hL := (ackP_zlen h (1 + k0) s kv).trans H4.out.2.1
            obtain ⟨tk, htk⟩ : ∃ tk, ackP h (1 + k0) s.z kv = tk := ⟨_, rfl⟩
            rw [htk] at hT hL
            have HT := Lib.hid hT
            have HTK := Lib.hid htk
            have HL := Lib.hid hL
            have HKV := Lib.hid hkv.2
            clear hT d0 d2 htk hL hkv
            rcases hcv with ⟨rfl, rfl⟩ | ⟨hne, rfl⟩
            all_goals
              go_wp2_with fail
              refine HT.out.mono ?_; rintro e wy ⟨rfl, own7, hS, hSt⟩
              have ht := hS.locB H4.out.2.2.1
              have hT := bs_AckR hh8.2 hSt _ HKV.out
              rw [HTK.out] at hT
              have HT2 := Lib.hid hT
              have H5 := Lib.hid ht
              clear hT hS hSt ht HT d1 H4
              go_wp2_with fail
              refine HT2.out.mono ?_; rintro e wy2 ⟨rfl, own8, hS, hSt⟩
              have H6 := Lib.hid (show ∃ own' s', BS w pp p1 pq p2 (1 + k0) r h own' wy2 s' s' ∧ s'.ow.length = 1 + k0 ∧ (Blk wy2 tb 27 #[.pointer (some ⟨p1, 0, none⟩), .pointer (some ⟨p2, 0, none⟩)] ∧ own' tb = 0) from ⟨own8, _, hSt, HL.out, hS.locB H5.out⟩)
              clear hS hSt HT2 H5
              go_wp2
              go_meet
              exact ⟨rfl, H6.out⟩
          · have hT := bs_Dev H4.out.1
            have hL : (ackN (notB 9223372036854775808) s.z (1 + k0)).z.ow.length = 1 + k0 := (ackN_len _ s.z _).1.trans H4.out.2.1
            obtain ⟨tk, htk⟩ : ∃ tk, ackN (notB 9223372036854775808) s.z (1 + k0) = tk := ⟨_, rfl⟩
            rw [htk] at hT hL
            have HT := Lib.hid hT
            have HTK := Lib.hid htk
            have HL := Lib.hid hL
            clear hT d0 d1 d2 htk hL
            go_wp2_with fail
            refine HT.out.mono ?_; rintro e wy ⟨rfl, own7, hS, hSt⟩
            have ht := hS.locB H4.out.2.2.1
            have hT := bs_DevR hSt
            rw [HTK.out] at hT
            have HT2 := Lib.hid hT
            have H5 := Lib.hid ht
            clear hT hS hSt ht HT H4
            go_wp2_with fail
            refine HT2.out.mono ?_; rintro e wy2 ⟨rfl, own8, hS, hSt⟩
            have H6 := Lib.hid (show ∃ own' s', BS w pp p1 pq p2 (1 + k0) r h own' wy2 s' s' ∧ s'.ow.length = 1 + k0 ∧ (Blk wy2 tb 27 #[.pointer (some ⟨p1, 0, none⟩), .pointer (some ⟨p2, 0, none⟩)] ∧ own' tb = 0) from ⟨own8, _, hSt, HL.out, hS.locB H5.out⟩)
            clear hS hSt HT2 H5
            go_wp2
            go_meet
            exact ⟨rfl, H6.out⟩
          · obtain ⟨pa, hpa, _, HPa0⟩ := place_nat a (1 + k0) W.drew ha (by omega) (by omega)
            rw [show ((1 + k0 : Nat) : Int) = 1 + (k0 : Int) from by omega] at HPa0
            have HPa := Lib.hid HPa0
            have hst : Step (fun x => x ≠ 0) own6 W own6 W.drew := (Step.refl _ _ _).drew
            have ht := hst.locB H4.out.2.2.1
            have t0 : W.drew.cell? ⟨tb, 0, none⟩ = some (.pointer (some ⟨p1, 0, none⟩)) := ht.1.cell 0
            have t1 : W.drew.cell? ⟨tb, 1, none⟩ = some (.pointer (some ⟨p2, 0, none⟩)) := ht.1.cell 1
            have HT := Lib.hid (bs_Write (H4.out.1.new (Upd.refl _ _).drew) rfl ((4096 : Int) * (pa : Int)) 8 v (by omega) (by omega) (by omega) (by omega) hv.1 hv.2)
            have H5 := Lib.hid (And.intro ht H4.out.2.1)
            clear HPa0 hst H4 d0
            go_wp2_with fail
            refine wpE_region (S := fun (W' : World) => W' = W.drew) (s := 9) (by kernel_rfl) ?_
            have hS : (fun (W' : World) => W' = W.drew) _ := rfl
            refine wpE_take (i := 0) (oi := { dst := some 135, op := Go.Op.load 27 (Go.Operand.tmp 10), type := 27, pos := "law.go:65", after := #[], guard := none }) (v := .agg #[.pointer (some ⟨p1, 0, none⟩), .pointer (some ⟨p2, 0, none⟩)]) rfl (by kernel_rfl) (fun _ _ _ h => h) (Or.inl ⟨by rfl, fun W hW => ?_⟩) hS ?_
            · (rename World => W2; obtain rfl : W2 = W.drew := hW); go_simp; (try go_bits); (try rw [if_pos (by omega)]); (try with_reducible rfl)
            (try simp only [Act.put, List.setIfInBounds_toArray, List.set_cons_succ, List.set_cons_zero])
            refine wpE_take (i := 1) (oi := { dst := some 136, op := Go.Op.fieldAddr 36 (Go.Operand.tmp 17) 1, type := 0, pos := "law.go:65", after := #[], guard := none }) (v := ?_) rfl (by kernel_rfl) (fun _ _ _ h => h) (Or.inl ⟨by rfl, fun W hW => ?_⟩) hS ?_
            rotate_left
            · (rename World => W2; obtain rfl : W2 = W.drew := hW); go_simp; (try go_bits); (try rw [if_pos (by omega)]); (try with_reducible rfl)
            (try simp only [Act.put, List.setIfInBounds_toArray, List.set_cons_succ, List.set_cons_zero])
            refine wpE_take (i := 2) (oi := { dst := some 137, op := Go.Op.load 3 (Go.Operand.tmp 136), type := 3, pos := "law.go:65", after := #[{ on := 1, ground := Go.Ground.data }], guard := none }) (v := ?_) rfl (by kernel_rfl) (fun _ _ _ h => h) (Or.inl ⟨by rfl, fun W hW => ?_⟩) hS ?_
            rotate_left
            · (rename World => W2; obtain rfl : W2 = W.drew := hW); go_simp; (try go_bits); (try rw [if_pos (by omega)]); (try with_reducible rfl)
            (try simp only [Act.put, List.setIfInBounds_toArray, List.set_cons_succ, List.set_cons_zero])
            refine wpE_take (i := 3) (oi := { dst := some 138, op := Go.Op.move (Go.Operand.tmp 9), type := 3, pos := "law.go:65", after := #[], guard := none }) (v := ?_) rfl (by kernel_rfl) (fun _ _ _ h => h) (Or.inl ⟨by rfl, fun W hW => ?_⟩) hS ?_
            rotate_left
            · (rename World => W2; obtain rfl : W2 = W.drew := hW); go_simp; (try go_bits); (try rw [if_pos (by omega)]); (try with_reducible rfl)
            (try simp only [Act.put, List.setIfInBounds_toArray, List.set_cons_succ, List.set_cons_zero])
            refine wpE_take (i := 7) (oi := { dst := some 142, op := Go.Op.fieldAddr 36 (Go.Operand.tmp 17) 2, type := 0, pos := "law.go:65", after := #[], guard := none }) (v := ?_) rfl (by kernel_rfl) (fun _ _ _ h => h) (Or.inl ⟨by rfl, fun W hW => ?_⟩) hS ?_
            rotate_left
            · (rename World => W2; obtain rfl : W2 = W.drew := hW); go_simp; (try go_bits); (try rw [if_pos (by omega)]); (try with_reducible rfl)
            (try simp only [Act.put, List.setIfInBounds_toArray, List.set_cons_succ, List.set_cons_zero])
            refine wpE_take (i := 8) (oi := { dst := some 143, op := Go.Op.load 30 (Go.Operand.tmp 142), type := 30, pos := "law.go:65", after := #[{ on := 7, ground := Go.Ground.data }], guard := none }) (v := ?_) rfl (by kernel_rfl) (fun _ _ _ h => h) (Or.inl ⟨by rfl, fun W hW => ?_⟩) hS ?_
            rotate_left
            · (rename World => W2; obtain rfl : W2 = W.drew := hW); go_simp; (try go_bits); (try rw [if_pos (by omega)]); (try with_reducible rfl)
            (try simp only [Act.put, List.setIfInBounds_toArray, List.set_cons_succ, List.set_cons_zero])
            refine wpE_only (i := 4) (oi := { dst := some 139, op := Go.Op.call { callee := Go.Callee.value (Go.Operand.func 17), args := #[Go.Operand.tmp 137, Go.Operand.tmp 138], argTypes := #[3, 3] }, type := 3, pos := "law.go:65", after := #[{ on := 2, ground := Go.Ground.data }, { on := 3, ground := Go.Ground.data }], guard := none }) rfl (by kernel_rfl) (by rfl) (fun K hK => ?_)
            go_simp; refine HPa.out.mono ?_; rintro e wz ⟨rfl, rfl⟩; refine hK _ _ hS ?_; clear hK K
            (try simp only [Act.put, List.setIfInBounds_toArray, List.set_cons_succ, List.set_cons_zero])
            refine wpE_take (i := 5) (oi := { dst := some 140, op := Go.Op.binOp Go.BinOp.mul 3 (Go.Operand.const (Go.Value.int Go.IntKind.i64 4096)) (Go.Operand.tmp 139) 3, type := 3, pos := "law.go:65", after := #[{ on := 4, ground := Go.Ground.data }], guard := none }) (v := .int .i64 ((4096 : Int) * (pa : Int))) rfl (by kernel_rfl) (fun _ _ _ h => h) (Or.inl ⟨by rfl, fun W hW => ?_⟩) hS ?_
            · (rename World => W2; obtain rfl : W2 = W.drew := hW); go_simp; (try go_bits); (try trivial)
            (try simp only [Act.put, List.setIfInBounds_toArray, List.set_cons_succ, List.set_cons_zero])
            refine wpE_take (i := 6) (oi := { dst := some 141, op := Go.Op.convert 3 30 (Go.Operand.tmp 140), type := 30, pos := "law.go:65", after := #[{ on := 5, ground := Go.Ground.data }], guard := none }) (v := .int .u64 ((4096 : Int) * (pa : Int))) rfl (by kernel_rfl) (fun _ _ _ h => h) (Or.inl ⟨by rfl, fun W hW => ?_⟩) hS ?_
            · (rename World => W2; obtain rfl : W2 = W.drew := hW); go_simp; (try go_bits); (try trivial)
            (try simp only [Act.put, List.setIfInBounds_toArray, List.set_cons_succ, List.set_cons_zero])
            refine wpE_last (oi := { dst := some 144, op := Go.Op.call { callee := Go.Callee.value (Go.Operand.func 34), args := #[Go.Operand.tmp 135, Go.Operand.tmp 141, Go.Operand.const (Go.Value.int Go.IntKind.i64 8), Go.Operand.tmp 143], argTypes := #[27, 30, 3, 30] }, type := 0, pos := "law.go:65", after := #[{ on := 0, ground := Go.Ground.data }, { on := 6, ground := Go.Ground.data }, { on := 8, ground := Go.Ground.data }, { on := 4, ground := Go.Ground.chain }], guard := none }) rfl (by kernel_rfl) (by kernel_rfl) (by rfl) (fun K hK => ?_)
            go_simp
            refine HT.out.mono ?_; rintro e wy ⟨rfl, own7, hS7, hSt⟩
            have H6 := Lib.hid (show ∃ own' s', BS w pp p1 pq p2 (1 + k0) r h own' wy s' s' ∧ s'.ow.length = 1 + k0 ∧ (Blk wy tb 27 #[.pointer (some ⟨p1, 0, none⟩), .pointer (some ⟨p2, 0, none⟩)] ∧ own' tb = 0) from ⟨own7, _, hSt, H5.out.2, hS7.locB H5.out.1⟩)
            clear hSt HT H5 hS7
            refine hK _ _ ?_; clear hK K
            go_wp2
            go_meet
            exact ⟨rfl, H6.out⟩
        case rest =>
          obtain ⟨rfl, HC⟩ := hcut
          clear d0 d1 d2 H4 hcs
          go_wp2
          go_loopw [24] (fun i wy => ∃ z : Int, -1 ≤ z ∧ z ≤ 2 + (k0 : Int) ∧ i = .int .i64 z ∧ Hid (∃ own' s', BS w pp p1 pq p2 (1 + k0) r h own' wy s' s' ∧ s'.ow.length = 1 + k0 ∧ (Blk wy tb 27 #[.pointer (some ⟨p1, 0, none⟩), .pointer (some ⟨p2, 0, none⟩)] ∧ own' tb = 0))) (fun i _ => (2 + (k0 : Int) - intOf i).toNat)
          case atStart => exact ⟨-1, by omega, by omega, rfl, HC.out⟩
          case round =>
            obtain ⟨z, hz0, hz1, rfl, HL⟩ := hrel
            by_cases hz : z ≤ 1 + (k0 : Int)
            · obtain ⟨own7, s7, hSt, hln, htb⟩ := HL.out
              have hO1 := pool_Owner hSt.2.1.1 z
              have hO2 := pr_Owner hSt.2.2.1 z
              have hW1 := bs_Waits hSt z
              obtain ⟨ov, hov⟩ : ∃ ov, ownerP s7.ow z = ov := ⟨_, rfl⟩
              obtain ⟨wv, hwv⟩ : ∃ wv, waitsP s7.bt z = wv := ⟨_, rfl⟩
              rw [hov] at hO1 hO2
              rw [hwv] at hW1
              have HO1 := Lib.hid hO1
              have HO2 := Lib.hid hO2
              have HW1 := Lib.hid hW1
              have HV := Lib.hid hwv
              have H5 := Lib.hid (And.intro hln htb)
              clear hO1 hO2 hW1 hov hwv hSt hln htb HL HC
              go_wp2_with fail
              refine HO1.out.mono ?_; rintro e wz ⟨rfl, rfl⟩
              go_wp2_with fail
              refine HO2.out.mono ?_; rintro e wz ⟨rfl, rfl⟩
              clear HO1 HO2
              go_wp2_with fail
              refine HW1.out.mono ?_; rintro e wz ⟨rfl, own8, hS, hSt⟩
              have hB := pr_Bits hSt.2.2.1 z
              rw [HV.out] at hB
              have HB := Lib.hid hB
              have H6 := Lib.hid (show ∃ own' s', BS w pp p1 pq p2 (1 + k0) r h own' wz s' s' ∧ s'.ow.length = 1 + k0 ∧ (Blk wz tb 27 #[.pointer (some ⟨p1, 0, none⟩), .pointer (some ⟨p2, 0, none⟩)] ∧ own' tb = 0) from ⟨own8, _, hSt, H5.out.1, hS.locB H5.out.2⟩)
              clear hS hSt hB HW1 H5
              go_wp2_with fail
              refine HB.out.mono ?_; rintro e wz' ⟨rfl, rfl⟩
              clear HB HV
              go_wp2
              exact ⟨⟨z + 1, by omega, by omega, by go_num, H6.out⟩, by simp [intOf]; omega⟩
            · obtain rfl : z = 2 + (k0 : Int) := by omega
              obtain ⟨own7, s7, hSt, hln, htb⟩ := HL.out
              have H5 := Lib.hid (And.intro hSt (And.intro hln htb))
              clear hSt hln htb HL HC
              go_wp2
              go_loop [25] (fun o => ∃ z : Int, -2 ≤ z ∧ z ≤ 9 ∧ o = .int .i64 z) (fun o => (9 - intOf o).toNat)
              case atStart => exact ⟨-2, by omega, by omega, rfl⟩
              case round =>
                obtain ⟨y, hy0, hy1, rfl⟩ := hrel
                by_cases hy : y ≤ 8
                · have hC1 := pool_Count H5.out.1.2.1.1 y
                  have hC2 := pr_Count H5.out.1.2.2.1 y
                  obtain ⟨cv, hcv⟩ : ∃ cv, countP s7.ow y = cv := ⟨_, rfl⟩
                  rw [hcv] at hC1 hC2
                  have HC1 := Lib.hid hC1
                  have HC2 := Lib.hid hC2
                  clear hC1 hC2 hcv
                  go_wp2_with fail
                  refine HC1.out.mono ?_; rintro e wz ⟨rfl, rfl⟩
                  go_wp2_with fail
                  refine HC2.out.mono ?_; rintro e wz ⟨rfl, rfl⟩
                  clear HC1 HC2
                  go_wp2
                  go_round
                  case rel => exact ⟨y + 1, by omega, by omega, by go_num⟩
                  case measure => simp [intOf]; omega
                · obtain rfl : y = 9 := by omega
                  go_wp2
                  exact ⟨⟨k + 1, by omega, by go_num, own7, s7, H5.out⟩, by simp [intOf]; omega⟩
      · obtain rfl : k = m := by omega
        obtain ⟨own5, s, hSt, hln, htb⟩ := HR.out
        have hb0 := htb.1.cell 0
        have hb1 := htb.1.cell 1
        simp only [List.getElem?_toArray, List.getElem?_cons_succ, List.getElem?_cons_zero] at hb0 hb1
        have HS := Lib.hid (bs_Same hSt rfl)
        have HU := Lib.hid hSt.upd
        clear hSt hln htb HR H3
        go_wp2_with fail
        refine HS.out.mono ?_; rintro e w5 ⟨rfl, hU5⟩
        have HU2 := Lib.hid (HU.out.trans hU5)
        clear HU HS hU5 hb0 hb1
        go_wp2_with fail
        refine (awake_calls _).mono ?_; rintro e w6 ⟨rfl, hU6⟩
        go_wp2
        go_ret
        exact ⟨rfl, HU2.out.trans hU6⟩
  · have HN1 := Lib.hid (pool_New_bad H1.out.2.1 reserved harts hok)
    have HN2 := Lib.hid (pr_New_bad H1.out.2.2.1 reserved harts hok)
    have hbl := H1.out.2.2.2.1.cell 1
    simp only [List.getElem?_toArray, List.getElem?_cons_zero, List.getElem?_cons_succ] at hbl
    have hU := Lib.hid H1.out.1
    clear H1 hok
    go_wp2_with fail
    refine HN1.out.mono ?_; rintro e wz ⟨rfl, rfl⟩
    go_wp2_with fail
    refine HN2.out.mono ?_; rintro e wz ⟨rfl, rfl⟩
    clear HN1 HN2
    go_wp2_with fail
    refine (awake_calls _).mono ?_; rintro e w4 ⟨rfl, hU4⟩
    go_wp2
    go_ret
    exact ⟨rfl, (hU.out.upd.mono (fun _ _ h => h.elim)).trans hU4⟩
end Go.Proofs.Ytpodeclkgcgpgaa
