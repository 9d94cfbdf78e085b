import Derived.Test.YtibhialnaibkjaaPciR3
namespace Go.Proofs.Ytibhialnaibkjaa
set_option linter.unusedVariables false
open Go.RowKit
set_option maxRecDepth 100000

theorem nat_and6' (x : Nat) : x &&& 6 = x % 8 / 2 * 2 := by
  have h : x &&& 6 = (x % 8) &&& 6 := by
    have h1 := Nat.and_two_pow_sub_one_eq_mod x 3
    rw [show (2 : Nat) ^ 3 - 1 = 7 from rfl, show (2 : Nat) ^ 3 = 8 from rfl] at h1
    rw [← h1, Nat.and_assoc]; rfl
  rw [h, nat_and6 _ (by omega)]; omega
theorem and6 {x : Int} (h0 : 0 ≤ x) (h1 : x < 18446744073709551616) : bits .and .u64 x 6 = x % 8 / 2 * 2 := by
  obtain ⟨a, rfl⟩ := Int.eq_ofNat_of_zero_le h0
  have := u64_and_nat a 6 (by omega) (by omega)
  rw [show ((6 : Nat) : Int) = 6 from rfl] at this
  rw [this, nat_and6']; omega
theorem BytesAt.far {w : World} {b : Nat} {f : Nat → Int} (h : BytesAt w b f) {p : Addr} (hp : b ≠ p.block) (u : Value) : BytesAt (w.setCell p u) b f := by
  obtain ⟨c, hc, hd⟩ := h
  exact ⟨c, hc.far hp u, hd⟩
set_option maxHeartbeats 1000000 in
theorem ref_Write {w : World} {p q : Nat} {L : List Sl} (h : RefAt w p q L) (slot off size v : Int) (h0 : 0 ≤ off) (h1 : off < 18446744073709551616) (hv : 0 ≤ v) (hv1 : v < 18446744073709551616) :
    Calls Try.prog 19 #[.pointer (some ⟨p, 0, none⟩), .int .i64 slot, .int .u64 off, .int .i64 size, .int .u64 v] w fun e w' =>
      e = .returned (.bool (fitsZ off size)) ∧ RefAt w' p q (wrL L slot off size v) ∧ Upd (· = q) w w' := by
  by_cases hf : fitsZ off size = true
  · have hr := fitsZ_room h0 hf
    have ho : off < 256 := (fitsZ_iff.1 hf).2.1
    rcases hat : at_ L slot with _ | s
    · have hn := at_none hat
      obtain ⟨ad, cap, hb⟩ := h.head
      have HF := Lib.hid (show RefAt w p q (wrL L slot off size v) from by simp only [wrL, hf, hat, if_true]; exact h)
      clear h hat
      simp only [decide_eq_false_iff_not, not_and, Int.not_lt] at hn
      by_cases hs0 : slot < 0
      · clear hn
        go_enter Try.func19, Try.ntmps19
        go_wp2_with fail
        refine (ref_right _ _ h0 h1 _).mono ?_; rintro e w' ⟨rfl, rfl⟩; rw [hf]
        go_wp2
        go_ret
        exact ⟨by rw [hf]; rfl, HF.out, Upd.refl _ _⟩
      · have hs1 : (L.length : Int) ≤ slot := hn (by omega)
        clear hn
        go_enter Try.func19, Try.ntmps19
        go_wp2_with fail
        refine (ref_right _ _ h0 h1 _).mono ?_; rintro e w' ⟨rfl, rfl⟩; rw [hf]
        go_wp2
        go_ret
        exact ⟨by rw [hf]; rfl, HF.out, Upd.refl _ _⟩
    · obtain ⟨hs0, hs1, hsi⟩ := at_some hat
      obtain ⟨hwf, cap, cur, hb, hpb, hq, hD⟩ := h.slot hsi
      have HF := Lib.hid (show wrL L slot off size v = L.set slot.toNat (wrS s off.toNat size.toNat v) from by simp [wrL, hf, hat])
      obtain ⟨k, rfl⟩ := Int.eq_ofNat_of_zero_le hs0
      simp only [Int.toNat_natCast] at hD HF hsi
      have c0 : w.cell? ⟨q, k * 4, none⟩ = some (.int .i64 s.kind) := by rw [hq.cell]; exact hD.1
      have c1 : w.cell? ⟨q, k * 4 + 1, none⟩ = some (.int .u64 s.cmd) := by rw [hq.cell]; exact hD.2.1
      have c2 : w.cell? ⟨q, k * 4 + 2, none⟩ = some (.int .u64 s.base) := by rw [hq.cell]; exact hD.2.2.1
      have c3 : w.cell? ⟨q, k * 4 + 3, none⟩ = some (.int .u64 s.line) := by rw [hq.cell]; exact hD.2.2.2
      have HB := Lib.hid (fun W => ref_bytes s hwf W)
      have hpq : p ≠ q := hpb.ne_ hq (by decide)
      have hpl := hpb.lt
      have hql := hq.lt
      have HH := Lib.hid (And.intro h (And.intro hsi (And.intro hwf (And.intro hpb (And.intro hq hD)))))
      have hbd := put_bd (devF_bd s) off.toNat size.toNat v
      have HBD := Lib.hid hbd
      have HS := Lib.hid (show wrS s off.toNat size.toNat v = { kind := s.kind, cmd := num (put (devF s) off.toNat size.toNat v) 4 2 % 8 / 2 * 2, base := num (put (devF s) off.toNat size.toNat v) 16 4 / 4096 * 4096, line := num (put (devF s) off.toNat size.toNat v) 60 1 } from rfl)
      clear h hat hq hD hsi hwf hpb hbd
      go_enter Try.func19, Try.ntmps19
      go_wp2_with fail
      refine (ref_right _ _ h0 h1 _).mono ?_; rintro e w' ⟨rfl, rfl⟩; rw [hf]
      go_wp2_with fail
      refine (HB.out _).mono ?_; rintro e w1 ⟨b, rfl, hby, hbn, hU1⟩
      have hU := (Upd.refl (fun _ => False) w).alloc (.cells #[.int .i64 s.kind, .int .u64 s.cmd, .int .u64 s.base, .int .u64 s.line] 68)
      have hsb := (Blk.new w 68 #[.int .i64 s.kind, .int .u64 s.cmd, .int .u64 s.base, .int .u64 s.line]).upd hU1 (fun h => h)
      have hU := hU.trans' hU1 (fun _ _ h => h)
      have hbn' : w.heap.size < b := by simp at hbn; omega
      clear hbn hU1
      go_wp2_with fail
      refine (ref_put hby off size v hr.1 (by omega) h0 hr.2.2 hv hv1).mono ?_; rintro e w2 ⟨rfl, hby2, hU2⟩
      have hsb2 := hsb.upd hU2 (by omega)
      have hU := hU.trans' hU2 (fun i hi e => by omega)
      clear hby hsb hU2
      generalize put (devF s) off.toNat size.toNat v = f at *
      have hx1 : 0 ≤ num f 4 2 ∧ num f 4 2 < 72057594037927936 := ⟨num_nonneg HBD.out _ _, num_lt7 HBD.out _ (by omega)⟩
      have hx2 : 0 ≤ num f 16 4 ∧ num f 16 4 < 72057594037927936 := ⟨num_nonneg HBD.out _ _, num_lt7 HBD.out _ (by omega)⟩
      have hx3 : 0 ≤ num f 60 1 ∧ num f 60 1 < 72057594037927936 := ⟨num_nonneg HBD.out _ _, num_lt7 HBD.out _ (by omega)⟩
      have ha6 := and6 hx1.1 (show num f 4 2 < 18446744073709551616 by omega)
      go_wp2_with fail
      refine (ref_get hby2 HBD.out 4 2 (by omega) (by omega) (by omega) (by omega)).mono ?_; rintro e w' ⟨rfl, rfl⟩
      rw [show (4 : Int).toNat = 4 from rfl, show (2 : Int).toNat = 2 from rfl]
      generalize num f 4 2 = x1 at *
      have d1 : w2.cell? ⟨w.heap.size, 1, none⟩ = some (.int .u64 s.cmd) := hsb2.cell 1
      have z1 : w2.frozen? ⟨w.heap.size, 1, none⟩ = false := hsb2.frozen 1
      have hsb3 := hsb2.set_ 1 (.int .u64 (x1 % 8 / 2 * 2))
      have hby3 := hby2.far (p := ⟨w.heap.size, 1, none⟩) (by simp; omega) (.int .u64 (x1 % 8 / 2 * 2))
      have hU := hU.setCell (p := ⟨w.heap.size, 1, none⟩) (.inr (Nat.le_refl _)) (.int .u64 (x1 % 8 / 2 * 2))
      have HK := Lib.hid (And.intro hsb3 (And.intro hby3 hU))
      clear hsb2 hby2 hU hsb3 hby3
      go_wp2_with fail
      clear d1 z1
      have HK2 := HK.out
      generalize w2.setCell ⟨w.heap.size, 1, none⟩ (.int .u64 (x1 % 8 / 2 * 2)) = w3 at *
      obtain ⟨hsb3, hby3, hU⟩ := HK2
      clear HK
      refine (ref_get hby3 HBD.out 16 4 (by omega) (by omega) (by omega) (by omega)).mono ?_; rintro e w' ⟨rfl, rfl⟩
      rw [show (16 : Int).toNat = 16 from rfl, show (4 : Int).toNat = 4 from rfl]
      generalize num f 16 4 = x2 at *
      have d1 : w3.cell? ⟨w.heap.size, 2, none⟩ = some (.int .u64 s.base) := hsb3.cell 2
      have z1 : w3.frozen? ⟨w.heap.size, 2, none⟩ = false := hsb3.frozen 2
      have hsb4 := hsb3.set_ 2 (.int .u64 (x2 / 4096 * 4096))
      have hby4 := hby3.far (p := ⟨w.heap.size, 2, none⟩) (by simp; omega) (.int .u64 (x2 / 4096 * 4096))
      have hU := hU.setCell (p := ⟨w.heap.size, 2, none⟩) (.inr (Nat.le_refl _)) (.int .u64 (x2 / 4096 * 4096))
      have HK := Lib.hid (And.intro hsb4 (And.intro hby4 hU))
      clear hsb3 hby3 hU hsb4 hby4
      go_wp2_with fail
      clear d1 z1
      have HK2 := HK.out
      generalize w3.setCell ⟨w.heap.size, 2, none⟩ (.int .u64 (x2 / 4096 * 4096)) = w4 at *
      obtain ⟨hsb4, hby4, hU⟩ := HK2
      clear HK
      refine (ref_get hby4 HBD.out 60 1 (by omega) (by omega) (by omega) (by omega)).mono ?_; rintro e w' ⟨rfl, rfl⟩
      rw [show (60 : Int).toNat = 60 from rfl, show (1 : Int).toNat = 1 from rfl]
      generalize num f 60 1 = x3 at *
      have d1 : w4.cell? ⟨w.heap.size, 3, none⟩ = some (.int .u64 s.line) := hsb4.cell 3
      have z1 : w4.frozen? ⟨w.heap.size, 3, none⟩ = false := hsb4.frozen 3
      have hsb5 := hsb4.set_ 3 (.int .u64 x3)
      have hU := hU.setCell (p := ⟨w.heap.size, 3, none⟩) (.inr (Nat.le_refl _)) (.int .u64 x3)
      have HK := Lib.hid (And.intro hsb5 hU)
      clear hsb4 hby4 hU hsb5
      go_wp2_with fail
      clear d1 z1
      have HK2 := HK.out
      generalize w4.setCell ⟨w.heap.size, 3, none⟩ (.int .u64 x3) = w5 at *
      obtain ⟨hsb5, hU⟩ := HK2
      clear HK
      have hq5 := HH.out.2.2.2.2.1.upd hU (fun h => h)
      have hp5 := HH.out.2.2.2.1.upd hU (fun h => h)
      obtain ⟨D0, D1, D2, D3⟩ := HH.out.2.2.2.2.2
      have s0 : w5.cell? ⟨w.heap.size, 0, none⟩ = some (.int .i64 s.kind) := hsb5.cell 0
      have s1 : w5.cell? ⟨w.heap.size, 1, none⟩ = some (.int .u64 (x1 % 8 / 2 * 2)) := hsb5.cell 1
      have s2 : w5.cell? ⟨w.heap.size, 2, none⟩ = some (.int .u64 (x2 / 4096 * 4096)) := hsb5.cell 2
      have s3 : w5.cell? ⟨w.heap.size, 3, none⟩ = some (.int .u64 x3) := hsb5.cell 3
      have p0 : w5.cell? ⟨p, 0, none⟩ = some (.slice (some ⟨q, 0, none⟩) L.length cap) := hp5.cell 0
      have q0 : w5.cell? ⟨q, k * 4, none⟩ = some (.int .i64 s.kind) := by rw [hq5.cell]; exact D0
      have q1 : w5.cell? ⟨q, k * 4 + 1, none⟩ = some (.int .u64 s.cmd) := by rw [hq5.cell]; exact D1
      have q2 : w5.cell? ⟨q, k * 4 + 2, none⟩ = some (.int .u64 s.base) := by rw [hq5.cell]; exact D2
      have q3 : w5.cell? ⟨q, k * 4 + 3, none⟩ = some (.int .u64 s.line) := by rw [hq5.cell]; exact D3
      have r0 : w5.frozen? ⟨q, k * 4, none⟩ = false := hq5.frozen _
      have r1 : w5.frozen? ⟨q, k * 4 + 1, none⟩ = false := hq5.frozen _
      have r2 : w5.frozen? ⟨q, k * 4 + 2, none⟩ = false := hq5.frozen _
      have r3 : w5.frozen? ⟨q, k * 4 + 3, none⟩ = false := hq5.frozen _
      have HZ := Lib.hid (And.intro hq5 (And.intro hp5 hU))
      clear hq5 hp5 hU hsb5 D0 D1 D2 D3 c0 c1 c2 c3
      refine wpE_region (S := fun W => W = w5.drew) (s := 7) (by kernel_rfl) ?_
      have hS : (fun W => W = w5.drew) _ := rfl
      refine wpE_take (i := 0) (oi := { dst := some 55, op := Go.Op.move (Go.Operand.tmp 0), type := 45, pos := "ref.go:104", after := #[], guard := none }) (v := ?_) rfl (by kernel_rfl) (fun _ _ _ h => h) (Or.inl ⟨by rfl, fun W hW => ?_⟩) hS ?_
      rotate_left
      · subst hW; go_simp; (try go_bits); (try rw [if_pos (by omega)]); (try with_reducible rfl)
      (try simp only [Act.put, List.setIfInBounds_toArray, List.set_cons_succ, List.set_cons_zero])
      refine wpE_take (i := 1) (oi := { dst := some 56, op := Go.Op.nilCheck (Go.Operand.tmp 55), type := 0, pos := "ref.go:104", after := #[{ on := 0, ground := Go.Ground.data }], guard := none }) (v := ?_) rfl (by kernel_rfl) (fun _ _ _ h => h) (Or.inl ⟨by rfl, fun W hW => ?_⟩) hS ?_
      rotate_left
      · subst hW; go_simp; (try go_bits); (try rw [if_pos (by omega)]); (try with_reducible rfl)
      (try simp only [Act.put, List.setIfInBounds_toArray, List.set_cons_succ, List.set_cons_zero])
      refine wpE_take (i := 2) (oi := { dst := some 57, op := Go.Op.fieldAddr 52 (Go.Operand.tmp 56) 0, type := 0, pos := "ref.go:104", after := #[{ on := 1, ground := Go.Ground.data }], guard := none }) (v := ?_) rfl (by kernel_rfl) (fun _ _ _ h => h) (Or.inl ⟨by rfl, fun W hW => ?_⟩) hS ?_
      rotate_left
      · subst hW; go_simp; (try go_bits); (try rw [if_pos (by omega)]); (try with_reducible rfl)
      (try simp only [Act.put, List.setIfInBounds_toArray, List.set_cons_succ, List.set_cons_zero])
      refine wpE_take (i := 3) (oi := { dst := some 58, op := Go.Op.load 50 (Go.Operand.tmp 57), type := 50, pos := "ref.go:104", after := #[{ on := 2, ground := Go.Ground.data }], guard := none }) (v := ?_) rfl (by kernel_rfl) (fun _ _ _ h => h) (Or.inl ⟨by rfl, fun W hW => ?_⟩) hS ?_
      rotate_left
      · subst hW; go_simp; (try go_bits); (try rw [if_pos (by omega)]); (try with_reducible rfl)
      (try simp only [Act.put, List.setIfInBounds_toArray, List.set_cons_succ, List.set_cons_zero])
      refine wpE_take (i := 4) (oi := { dst := some 59, op := Go.Op.move (Go.Operand.tmp 1), type := 3, pos := "ref.go:104", after := #[], guard := none }) (v := ?_) rfl (by kernel_rfl) (fun _ _ _ h => h) (Or.inl ⟨by rfl, fun W hW => ?_⟩) hS ?_
      rotate_left
      · subst hW; go_simp; (try go_bits); (try rw [if_pos (by omega)]); (try with_reducible rfl)
      (try simp only [Act.put, List.setIfInBounds_toArray, List.set_cons_succ, List.set_cons_zero])
      refine wpE_take (i := 5) (oi := { dst := some 60, op := Go.Op.load 68 (Go.Operand.tmp 11), type := 68, pos := "ref.go:104", after := #[], guard := none }) (v := ?_) rfl (by kernel_rfl) (fun _ _ _ h => h) (Or.inl ⟨by rfl, fun W hW => ?_⟩) hS ?_
      rotate_left
      · subst hW; go_simp; (try go_bits); (try rw [if_pos (by omega)]); (try with_reducible rfl)
      (try simp only [Act.put, List.setIfInBounds_toArray, List.set_cons_succ, List.set_cons_zero])
      refine wpE_take (i := 6) (oi := { dst := some 61, op := Go.Op.indexAddr 50 (Go.Operand.tmp 58) (Go.Operand.tmp 59), type := 0, pos := "ref.go:104", after := #[{ on := 3, ground := Go.Ground.data }, { on := 4, ground := Go.Ground.data }, { on := 0, ground := Go.Ground.phase }, { on := 1, ground := Go.Ground.phase }, { on := 2, ground := Go.Ground.phase }, { on := 3, ground := Go.Ground.phase }, { on := 4, ground := Go.Ground.phase }, { on := 5, ground := Go.Ground.phase }], guard := none }) (v := ?_) rfl (by kernel_rfl) (fun _ _ _ h => h) (Or.inl ⟨by rfl, fun W hW => ?_⟩) hS ?_
      rotate_left
      · subst hW; go_simp; (try go_bits); (try rw [if_pos (by omega)]); (try with_reducible rfl)
      (try simp only [Act.put, List.setIfInBounds_toArray, List.set_cons_succ, List.set_cons_zero])
      refine wpE_last (oi := { dst := none, op := Go.Op.store 68 (Go.Operand.tmp 61) (Go.Operand.tmp 60), type := 0, pos := "ref.go:104", after := #[{ on := 6, ground := Go.Ground.data }, { on := 5, ground := Go.Ground.data }, { on := 0, ground := Go.Ground.phase }, { on := 1, ground := Go.Ground.phase }, { on := 2, ground := Go.Ground.phase }, { on := 3, ground := Go.Ground.phase }, { on := 4, ground := Go.Ground.phase }, { on := 5, ground := Go.Ground.phase }], guard := none }) rfl (by kernel_rfl) (by kernel_rfl) (by rfl) (fun K hK => ?_)
      go_simp; (try go_bits); refine hK _ _ ?_; clear hK K
      go_wp2
      go_ret
      obtain ⟨hq5, hp5, hU⟩ := HZ.out
      obtain ⟨hbus, hsi, hwf, _, hq0, D⟩ := HH.out
      have l0 := lt_of_cell? D.1
      have l1 := lt_of_cell? D.2.1
      have l2 := lt_of_cell? D.2.2.1
      have l3 := lt_of_cell? D.2.2.2
      have b1 := hq5.set_ (k * 4) (.int .i64 s.kind)
      have b2 := b1.set_ (k * 4 + 1) (.int .u64 (x1 % 8 / 2 * 2))
      have b3 := b2.set_ (k * 4 + 2) (.int .u64 (x2 / 4096 * 4096))
      have b4 := b3.set_ (k * 4 + 3) (.int .u64 x3)
      have hU0 : Upd (fun x => x = q) w w5 := hU.mono (fun _ _ h => h.elim)
      have hU' := (((hU0.setCell (p := ⟨q, k * 4, none⟩) (.inl rfl) (.int .i64 s.kind)).setCell (p := ⟨q, k * 4 + 1, none⟩) (.inl rfl) (.int .u64 (x1 % 8 / 2 * 2))).setCell (p := ⟨q, k * 4 + 2, none⟩) (.inl rfl) (.int .u64 (x2 / 4096 * 4096))).setCell (p := ⟨q, k * 4 + 3, none⟩) (.inl rfl) (.int .u64 x3)
      refine ⟨rfl, ?_, hU'.drew⟩
      rw [HF.out]
      refine ref_set hbus hsi (wrS_wf hwf _ _ _) hq0 b4.drew hU'.drew ?_ ?_
      · rw [HS.out]
        refine ⟨?_, ?_, ?_, ?_⟩
        · rw [getElem?_set_ne _ (by omega), getElem?_set_ne _ (by omega), getElem?_set_ne _ (by omega), getElem?_set_eq _ l0]
        · rw [getElem?_set_ne _ (by omega), getElem?_set_ne _ (by omega), getElem?_set_eq _ (by simpa using l1)]
        · rw [getElem?_set_ne _ (by omega), getElem?_set_eq _ (by simpa using l2)]
        · rw [getElem?_set_eq _ (by simpa using l3)]
      · intro j hj
        rw [getElem?_set_ne _ (by omega), getElem?_set_ne _ (by omega), getElem?_set_ne _ (by omega), getElem?_set_ne _ (by omega)]
  · have hf' : fitsZ off size = false := by simpa using hf
    have HF := Lib.hid (show RefAt w p q (wrL L slot off size v) from by simp only [wrL, hf']; exact h)
    clear h hf
    go_enter Try.func19, Try.ntmps19
    go_wp2_with fail
    refine (ref_right _ _ h0 h1 _).mono ?_; rintro e w' ⟨rfl, rfl⟩; rw [hf']
    go_wp2
    go_ret
    exact ⟨by rw [hf']; rfl, HF.out, Upd.refl _ _⟩
end Go.Proofs.Ytibhialnaibkjaa
