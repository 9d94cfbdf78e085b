import Derived.Test.YtpodeclkgcgpgaaSx
import Derived.Test.YtpodeclkgcgpgaaSh2
/- StageRights' walk. -/
namespace Go.Proofs.Ytpodeclkgcgpgaa
set_option linter.unusedVariables false
set_option linter.unusedSimpArgs false
open Go.RowKit
set_option maxRecDepth 100000

theorem perms_at (r : Nat) (hr : r < 5) : ∃ x : Int, permOk x ∧ ∀ h : r < [Value.int .i64 2, .int .i64 6, .int .i64 8, .int .i64 10, .int .i64 14].length, [Value.int .i64 2, .int .i64 6, .int .i64 8, .int .i64 10, .int .i64 14][r]'h = .int .i64 x := by
  rcases (show r = 0 ∨ r = 1 ∨ r = 2 ∨ r = 3 ∨ r = 4 by omega) with rfl | rfl | rfl | rfl | rfl
  · exact ⟨2, by unfold permOk; omega, fun _ => rfl⟩
  · exact ⟨6, by unfold permOk; omega, fun _ => rfl⟩
  · exact ⟨8, by unfold permOk; omega, fun _ => rfl⟩
  · exact ⟨10, by unfold permOk; omega, fun _ => rfl⟩
  · exact ⟨14, by unfold permOk; omega, fun _ => rfl⟩
set_option maxHeartbeats 4000000 in
theorem rights_calls (first second v : Int) (w : World) (hfi : wfI first) (hse : wfI second) (hv : wfU v) :
    Calls Try.prog 12 #[.int .i64 first, .int .i64 second, .int .u64 v] w fun e w' => e = .returned (.bool true) ∧ Upd (fun _ => False) w w' := by
  obtain ⟨hf0, hf1⟩ := hfi
  obtain ⟨hs0, hs1⟩ := hse
  have HPl := Lib.hid (fun w => place_calls first 5 w hf0 hf1 (by omega) (by omega))
  obtain ⟨r1, hr1⟩ : ∃ r : Nat, first % 5 = (r : Int) := ⟨(first % 5).toNat, by omega⟩
  have hr15 : r1 < 5 := by omega
  rw [hr1] at HPl
  have HPm := Lib.hid (fun w => place_calls second 5 w hs0 hs1 (by omega) (by omega))
  obtain ⟨r2, hr2⟩ : ∃ r : Nat, second % 5 = (r : Int) := ⟨(second % 5).toNat, by omega⟩
  have hr25 : r2 < 5 := by omega
  rw [hr2] at HPm
  have HV := Lib.hid hv
  clear hr1 hr2 hf0 hf1 hs0 hs1 hv
  obtain ⟨x, hx, hkx⟩ := perms_at r1 hr15
  obtain ⟨y, hy, hky⟩ := perms_at r2 hr25
  have HXY := Lib.hid (And.intro hx hy)
  have HKL := Lib.hid (And.intro hkx hky)
  clear hx hy hkx hky
  go_enter Try.func12, Try.ntmps12
  go_wp2_with fail
  refine (law10_spaces w).mono ?_
  rintro e w1 ⟨sa, sb, pp, p1, p2, own1, rfl, hS1, hG1, _⟩
  have hst : Step (fun _ => False) own1 w1 (ext own1 w1 0) (w1.alloc (.cells #[.pointer (some ⟨p1, 0, none⟩), .pointer (some ⟨p2, 0, none⟩)] 27)) := ⟨(Upd.refl _ _).alloc _, fun b hb => ext_old _ _ _ hb⟩
  have hB := Blk.new w1 27 #[.pointer (some ⟨p1, 0, none⟩), .pointer (some ⟨p2, 0, none⟩)]
  have H1 := Lib.hid (And.intro (hS1.trans (hst.mono (fun _ h => h.elim))) (And.intro (hG1.step hst (by simp)) (And.intro hB (show ext own1 w1 0 w1.heap.size = 0 from ext_new _ _ _ (Nat.le_refl _)))))
  clear hS1 hG1 hst hB
  have HTk := Lib.hid (gs_Take H1.out.2.1 1 3 _ takeF)
  go_wp2_with fail
  generalize w1.heap.size = tb at *
  refine HTk.out.mono ?_; rintro e w2 ⟨rfl, hS2, hG2⟩
  have hst2 := step_alloc (ext own1 w1 0) w2 (.cells #[.int .i64 2, .int .i64 6, .int .i64 8, .int .i64 10, .int .i64 14] 3)
  have hG2' : GS (ext own1 w1 0) w2 sa p1 pp 1 16 1 1 (sF 0) [1] := hG2
  have H2 := Lib.hid (And.intro (H1.out.1.trans ((hS2.trans (hst2.mono (fun _ h => h.elim))).mono (fun x h => by omega))) (And.intro (hG2'.step hst2 (by simp)) ((hS2.trans (hst2.mono (fun _ h => h.elim))).blk H1.out.2.2.1 H1.out.2.2.2 (by omega))))
  clear hS2 hG2 hG2' hst2 HTk H1
  go_wp2_with fail
  refine (HPl.out _).mono ?_; rintro e wz ⟨rfl, rfl⟩
  go_wp2_with fail
  refine (HPm.out _).mono ?_; rintro e wz ⟨rfl, rfl⟩
  go_wp2_with fail
  simp only [HKL.out.1, HKL.out.2]
  clear HPl HPm hr15 hr25
  generalize (w2.alloc (.cells #[.int .i64 2, .int .i64 6, .int .i64 8, .int .i64 10, .int .i64 14] 3)) = w3 at *
  have hbl := sF_l2 0 524288 (by decide) (by decide)
  have HMp := Lib.hid (sp_Map (t0 := 1) (page := 524288) (fr := 3) (p := x) H2.out.2.1 (by decide) (by decide) (by decide) HXY.out.1 (sF_bl 0 524288 (by decide) (by decide)) (sF_dn 0 524288 (by decide)).2.2 (by rw [(sF_dn 0 524288 (by decide)).2.1, show countP (sF 0).ow 0 = 12 from owF_count 0 (by decide)]; decide))
  refine HMp.out.mono ?_; rintro e w4 ⟨rfl, own4, hS4, hG4⟩
  rw [show ((1 : Nat) : Int) = 1 from rfl, hbl.2.2] at hG4
  have hG4' : GS own4 w4 sa p1 pp 1 16 1 1 (mR x) [1, 4, 5] := hG4
  have H4 := Lib.hid (And.intro (H2.out.1.trans (hS4.mono (fun x h => by omega))) (And.intro hG4' (hS4.blk H2.out.2.2.1 H2.out.2.2.2 (by omega))))
  clear hS4 hG4 hG4' HMp H2 hbl
  have hPr := sp_Protect_ok (t0 := 1) H4.out.2.1 HXY.out.2 (mR_pg HXY.out.1) (by rw [mR_dn HXY.out.1]) (by rw [mR_dn HXY.out.1]; decide)
  rw [mR_dn HXY.out.1] at hPr
  have HPr := Lib.hid hPr
  clear hPr
  go_wp2_with fail
  refine HPr.out.mono ?_; rintro e w5 ⟨rfl, own5, hS5, hG5⟩
  have hK5 : Kept3 x y (mP x y) := fun _ _ => rfl
  have H5 := Lib.hid (And.intro (H4.out.1.trans (hS5.mono (fun x h => by omega))) (And.intro (show GS own5 w5 sa p1 pp 1 16 1 1 ⟨(mR x).ow, (mR x).bt, mP x y, (mR x).cnt⟩ [1, 4, 5] from hG5) (hS5.blk H4.out.2.2.1 H4.out.2.2.2 (by omega))))
  have HK5 := Lib.hid (hK5.pg HXY.out.1 HXY.out.2)
  clear hS5 hG5 HPr H4 hK5
  have HF := Lib.hid (sp_FindE (t0 := 1) H5.out.2.1.1.2 H5.out.2.1.2 HK5.out.1 524288 (by decide))
  go_wp2_with fail
  refine HF.out.mono ?_; rintro e w6 ⟨rfl, hS6⟩
  have hst : Step (fun _ => False) own5 w5 own5 (w6.alloc (.cells #[.int .u64 524288, .int .i64 3, .int .i64 y] 85)) := hS6.trans (step_alloc own5 w6 _)
  have hB6 : Blk (w6.alloc (.cells #[.int .u64 524288, .int .i64 3, .int .i64 y] 85)) w6.heap.size 85 #[.int .u64 524288, .int .i64 3, .int .i64 y] := Blk.new w6 _ _
  have H6 := Lib.hid (And.intro (H5.out.1.trans (hst.mono (fun _ h => h.elim))) (And.intro (H5.out.2.1.step hst (by simp)) (hst.blk H5.out.2.2.1 H5.out.2.2.2 (fun h => h))))
  clear hS6 hst HF H5
  have qe := page_eq 524288 3 y
  obtain ⟨b4, hb4⟩ : ∃ b4, (bits .and .i64 y 4 != 0) = b4 := ⟨_, rfl⟩
  rcases b4 with _ | _
  have hb4' : (bits .and .i64 y 4 == 0) = true := by simpa using hb4
  have HW := Lib.hid (sp_Write_no (t0 := 1) (fr := fun _ => 3) (pm := fun _ => y) 2147483648 8 v (by omega) (by omega) H6.out.2.1
    (fun page h1 h2 => by obtain rfl : page = 524288 := by omega
                          exact HK5.out.1) hb4')
  clear hb4'
  go_wp2_with fail
  refine HW.out.mono ?_; rintro e w8 ⟨rfl, hS8⟩
  obtain ⟨own8, S8, H8, HK8⟩ : ∃ own8 S8, Hid (Step (fun x => x ≠ 0) (fun _ => 0) w own8 w8 ∧ GS own8 w8 sa p1 pp 1 16 1 1 S8 [1, 4, 5] ∧ (Blk w8 tb 27 #[.pointer (some ⟨p1, 0, none⟩), .pointer (some ⟨p2, 0, none⟩)] ∧ own8 tb = 0)) ∧
      Hid (PgOk 16 S8.m 1 524288 3 y ∧ TabOk 16 S8.m 1 524288 4 5 3 y ∧ DnOk 16 S8.m 1 524289 ∧ (fndP S8.m 1 524289).2.2.2 = false) :=
    ⟨own5, _, Lib.hid ⟨H6.out.1.trans (hS8.mono (fun _ h => h.elim)), H6.out.2.1.step hS8 (by simp), hS8.blk H6.out.2.2.1 H6.out.2.2.2 (fun h => h)⟩, HK5⟩
  clear hS8
  rotate_left
  have hb4' : (bits .and .i64 y 4 == 0) = false := by simpa using hb4
  have HW := Lib.hid (sp_Write_ok (t0 := 1) (fr := fun _ => 3) (pm := fun _ => y) (D := fun z => z = 3) 2147483648 8 v (by omega) (by omega) HV.out H6.out.2.1
    (fun m' hm page h1 h2 => by
      obtain rfl : page = 524288 := by omega
      exact (Kept3.pg HXY.out.1 HXY.out.2 (show Kept3 x y m' from hm)).1) (fun _ _ _ => rfl) (fun _ _ _ => hb4'))
  clear hb4'
  go_wp2_with fail
  refine HW.out.mono ?_; rintro e w8 ⟨rfl, own8, hS8, hG8⟩
  obtain ⟨S8, H8, HK8⟩ : ∃ S8, Hid (Step (fun x => x ≠ 0) (fun _ => 0) w own8 w8 ∧ GS own8 w8 sa p1 pp 1 16 1 1 S8 [1, 4, 5] ∧ (Blk w8 tb 27 #[.pointer (some ⟨p1, 0, none⟩), .pointer (some ⟨p2, 0, none⟩)] ∧ own8 tb = 0)) ∧
      Hid (PgOk 16 S8.m 1 524288 3 y ∧ TabOk 16 S8.m 1 524288 4 5 3 y ∧ DnOk 16 S8.m 1 524289 ∧ (fndP S8.m 1 524289).2.2.2 = false) :=
    ⟨_, Lib.hid ⟨H6.out.1.trans (hS8.mono (fun x h => by omega)), hG8, hS8.blk H6.out.2.2.1 H6.out.2.2.2 (by omega)⟩,
      Lib.hid (Kept3.pg HXY.out.1 HXY.out.2 (fun z hz => wrG_far (D := fun z => z = 3) (fun j => by show (3 * 4096 + (2147483648 + j) % 4096) / 4096 = 3; omega) 8 z hz))⟩
  clear hS8 hG8
  all_goals
    clear HW H6 HK5 qe hB6
    go_wp2
    clear hb4
    go_loopw [19] (fun i wr => ∃ (k : Nat), 1 ≤ k ∧ k ≤ 4 ∧ i = .int .i64 (k : Int) ∧ Hid (Step (fun _ => False) own8 w8 own8 wr)) (fun i _ => 4 - (intOf i).toNat)
    case atStart => exact ⟨1, by omega, by omega, rfl, Step.refl _ _ _⟩
    case round =>
      obtain ⟨k, hk1, hk4, rfl, HR⟩ := hrel
      rcases (show k = 1 ∨ k = 2 ∨ k = 3 ∨ k = 4 by omega) with rfl | rfl | rfl | rfl
      · obtain ⟨r, hr⟩ : ∃ r, letP y 1 = r := ⟨_, rfl⟩
        have hwl : (bits .and .i64 y 8 != 0) = r := (want_let HXY.out.2).1.trans hr
        have HWL := Lib.hid hwl
        have HRR := Lib.hid hr
        clear hwl hr
        rw [show ((1 : Nat) : Int) = 1 from rfl]
        go_wp2_with fail
        have hstA : Step (fun _ => False) own8 w8 own8 (wr.alloc (.cells #[.int .i64 0, .int .i64 8, .int .i64 2, .int .i64 4] 3)).drew := (HR.out.trans (step_alloc own8 wr _)).drew
        generalize (wr.alloc (.cells #[.int .i64 0, .int .i64 8, .int .i64 2, .int .i64 4] 3)) = wa at *
        have hbA := (hstA.blk H8.out.2.2.1 H8.out.2.2.2 (fun h => h)).1
        have hcA := hbA.cell 0
        simp only [List.getElem?_toArray, List.getElem?_cons_zero] at hcA
        have H9 := Lib.hid (And.intro hstA (H8.out.2.1.step hstA (by simp)))
        have hltA := hbA.lt
        clear hstA hbA HR
        refine wpE_region (S := fun (W' : World) => W'.cell? ⟨tb, 0, none⟩ = some (.pointer (some ⟨p1, 0, none⟩))) (s := 12) (by kernel_rfl) ?_
        have hS : (fun (W' : World) => W'.cell? ⟨tb, 0, none⟩ = some (.pointer (some ⟨p1, 0, none⟩))) _ := hcA
        refine wpE_take (i := 0) (oi := { dst := some 96, op := Go.Op.fieldAddr 27 (Go.Operand.tmp 10) 0, type := 0, pos := "outright.go:132", after := #[], guard := none }) (v := ?_) rfl (by kernel_rfl) (fun _ _ _ h => h) (Or.inl ⟨by rfl, fun W hW => ?_⟩) hS ?_
        rotate_left
        · (have hw1 : W.cell? ⟨tb, 0, none⟩ = some (.pointer (some ⟨p1, 0, none⟩)) := hW); go_simp; (try go_bits); (try rw [if_pos (by omega)]); (try with_reducible rfl)
        (try simp only [Act.put, List.setIfInBounds_toArray, List.set_cons_succ, List.set_cons_zero])
        refine wpE_take (i := 1) (oi := { dst := some 97, op := Go.Op.load 24 (Go.Operand.tmp 96), type := 24, pos := "outright.go:132", after := #[{ on := 0, ground := Go.Ground.data }], guard := none }) (v := ?_) rfl (by kernel_rfl) (fun _ _ _ h => h) (Or.inl ⟨by rfl, fun W hW => ?_⟩) hS ?_
        rotate_left
        · (have hw1 : W.cell? ⟨tb, 0, none⟩ = some (.pointer (some ⟨p1, 0, none⟩)) := hW); go_simp; (try go_bits); (try rw [if_pos (by omega)]); (try with_reducible rfl)
        (try simp only [Act.put, List.setIfInBounds_toArray, List.set_cons_succ, List.set_cons_zero])
        refine wpE_take (i := 2) (oi := { dst := some 98, op := Go.Op.move (Go.Operand.tmp 7), type := 59, pos := "outright.go:132", after := #[], guard := none }) (v := ?_) rfl (by kernel_rfl) (fun _ _ _ h => h) (Or.inl ⟨by rfl, fun W hW => ?_⟩) hS ?_
        rotate_left
        · (have hw1 : W.cell? ⟨tb, 0, none⟩ = some (.pointer (some ⟨p1, 0, none⟩)) := hW); go_simp; (try go_bits); (try rw [if_pos (by omega)]); (try with_reducible rfl)
        (try simp only [Act.put, List.setIfInBounds_toArray, List.set_cons_succ, List.set_cons_zero])
        refine wpE_take (i := 4) (oi := { dst := some 100, op := Go.Op.move (Go.Operand.tmp 19), type := 3, pos := "outright.go:132", after := #[], guard := none }) (v := ?_) rfl (by kernel_rfl) (fun _ _ _ h => h) (Or.inl ⟨by rfl, fun W hW => ?_⟩) hS ?_
        rotate_left
        · (have hw1 : W.cell? ⟨tb, 0, none⟩ = some (.pointer (some ⟨p1, 0, none⟩)) := hW); go_simp; (try go_bits); (try rw [if_pos (by omega)]); (try with_reducible rfl)
        (try simp only [Act.put, List.setIfInBounds_toArray, List.set_cons_succ, List.set_cons_zero])
        refine wpE_only (i := 3) (oi := { dst := some 99, op := Go.Op.call { callee := Go.Callee.value (Go.Operand.func 57), args := #[Go.Operand.tmp 98], argTypes := #[59] }, type := 30, pos := "outright.go:132", after := #[{ on := 2, ground := Go.Ground.data }], guard := none }) rfl (by kernel_rfl) (by rfl) (fun K hK => ?_)
        go_simp
        refine (sp_Root (t0 := 1) H9.out.2.1.2 H9.out.2.2 (by decide)).mono ?_; rintro q wb ⟨rfl, hSb⟩
        have hS : wb.cell? ⟨tb, 0, none⟩ = some (.pointer (some ⟨p1, 0, none⟩)) := (hSb.upd.cell (p := ⟨tb, 0, none⟩) hltA (fun h => h)).trans hcA
        have HlB := Lib.hid (Nat.lt_of_lt_of_le hltA hSb.upd.size)
        have H10 := Lib.hid (And.intro (H9.out.1.trans hSb) (H9.out.2.step hSb (by simp)))
        clear hSb H9
        refine hK _ _ hS ?_; clear hK K
        (try simp only [Act.put, List.setIfInBounds_toArray, List.set_cons_succ, List.set_cons_zero])
        refine wpE_only (i := 5) (oi := { dst := some 101, op := Go.Op.call { callee := Go.Callee.value (Go.Operand.func 56), args := #[Go.Operand.tmp 97, Go.Operand.tmp 99, Go.Operand.const (Go.Value.int Go.IntKind.u64 2147483656), Go.Operand.tmp 100], argTypes := #[24, 30, 30, 3] }, type := 93, pos := "outright.go:132", after := #[{ on := 1, ground := Go.Ground.data }, { on := 3, ground := Go.Ground.data }, { on := 4, ground := Go.Ground.data }, { on := 3, ground := Go.Ground.chain }], guard := none }) rfl (by kernel_rfl) (by rfl) (fun K hK => ?_)
        go_simp
        have hGu := page_Guest (acc := 1) (a := 2147483656) H10.out.2.1.2 (by decide) HK8.out.2.1 (by decide) (by decide) (by decide)
        rw [HRR.out] at hGu
        refine hGu.mono ?_; rintro q wc ⟨rfl, hUc⟩
        have hS : wc.cell? ⟨tb, 0, none⟩ = some (.pointer (some ⟨p1, 0, none⟩)) := (hUc.cell (p := ⟨tb, 0, none⟩) HlB.out (fun h => h)).trans hS
        have H11 := Lib.hid (H10.out.1.trans (show Step (fun _ => False) own8 wb own8 wc from ⟨hUc, fun _ _ => rfl⟩))
        clear hUc H10 hGu
        refine hK _ _ hS ?_; clear hK K
        (try simp only [Act.put, List.setIfInBounds_toArray, List.set_cons_succ, List.set_cons_zero])
        refine wpE_take (i := 6) (oi := { dst := some 95, op := Go.Op.move (Go.Operand.tmp 101), type := 93, pos := "outright.go:132", after := #[{ on := 5, ground := Go.Ground.data }], guard := none }) (v := ?_) rfl (by kernel_rfl) (fun _ _ _ h => h) (Or.inl ⟨by rfl, fun W hW => ?_⟩) hS ?_
        rotate_left
        · (have hw1 : W.cell? ⟨tb, 0, none⟩ = some (.pointer (some ⟨p1, 0, none⟩)) := hW); go_simp; (try go_bits); (try rw [if_pos (by omega)]); (try with_reducible rfl)
        (try simp only [Act.put, List.setIfInBounds_toArray, List.set_cons_succ, List.set_cons_zero])
        refine wpE_take (i := 7) (oi := { dst := some 102, op := Go.Op.extract (Go.Operand.tmp 95) 0, type := 30, pos := "outright.go:132", after := #[{ on := 6, ground := Go.Ground.data }], guard := none }) (v := ?_) rfl (by kernel_rfl) (fun _ _ _ h => h) (Or.inl ⟨by rfl, fun W hW => ?_⟩) hS ?_
        rotate_left
        · (have hw1 : W.cell? ⟨tb, 0, none⟩ = some (.pointer (some ⟨p1, 0, none⟩)) := hW); go_simp; (try go_bits); (try rw [if_pos (by omega)]); (try with_reducible rfl)
        (try simp only [Act.put, List.setIfInBounds_toArray, List.set_cons_succ, List.set_cons_zero])
        refine wpE_take (i := 8) (oi := { dst := some 103, op := Go.Op.extract (Go.Operand.tmp 95) 1, type := 3, pos := "outright.go:132", after := #[{ on := 6, ground := Go.Ground.data }, { on := 10, ground := Go.Ground.gcOnly Go.Departure.lateStores }], guard := none }) (v := ?_) rfl (by kernel_rfl) (fun _ _ _ h => h) (Or.inl ⟨by rfl, fun W hW => ?_⟩) hS ?_
        rotate_left
        · (have hw1 : W.cell? ⟨tb, 0, none⟩ = some (.pointer (some ⟨p1, 0, none⟩)) := hW); go_simp; (try go_bits); (try rw [if_pos (by omega)]); (try with_reducible rfl)
        (try simp only [Act.put, List.setIfInBounds_toArray, List.set_cons_succ, List.set_cons_zero])
        refine wpE_take (i := 9) (oi := { dst := some 104, op := Go.Op.extract (Go.Operand.tmp 95) 2, type := 3, pos := "outright.go:132", after := #[{ on := 6, ground := Go.Ground.data }, { on := 11, ground := Go.Ground.gcOnly Go.Departure.lateStores }], guard := none }) (v := ?_) rfl (by kernel_rfl) (fun _ _ _ h => h) (Or.inl ⟨by rfl, fun W hW => ?_⟩) hS ?_
        rotate_left
        · (have hw1 : W.cell? ⟨tb, 0, none⟩ = some (.pointer (some ⟨p1, 0, none⟩)) := hW); go_simp; (try go_bits); (try rw [if_pos (by omega)]); (try with_reducible rfl)
        (try simp only [Act.put, List.setIfInBounds_toArray, List.set_cons_succ, List.set_cons_zero])
        refine wpE_only (i := 10) (oi := { dst := some 21, op := Go.Op.assign (Go.Operand.tmp 102), type := 30, pos := "outright.go:132", after := #[{ on := 7, ground := Go.Ground.data }, { on := 5, ground := Go.Ground.chain }, { on := 0, ground := Go.Ground.phase }, { on := 1, ground := Go.Ground.phase }, { on := 2, ground := Go.Ground.phase }, { on := 3, ground := Go.Ground.phase }, { on := 4, ground := Go.Ground.phase }, { on := 5, ground := Go.Ground.phase }, { on := 6, ground := Go.Ground.phase }, { on := 7, ground := Go.Ground.phase }, { on := 8, ground := Go.Ground.textOnly Go.Departure.lateStores }, { on := 9, ground := Go.Ground.textOnly Go.Departure.lateStores }], guard := none }) rfl (by kernel_rfl) (by rfl) (fun K hK => ?_)
        go_simp; (try go_bits); refine hK _ _ hS ?_; clear hK K
        (try simp only [Act.put, List.setIfInBounds_toArray, List.set_cons_succ, List.set_cons_zero])
        refine wpE_only (i := 11) (oi := { dst := some 22, op := Go.Op.assign (Go.Operand.tmp 103), type := 3, pos := "outright.go:132", after := #[{ on := 8, ground := Go.Ground.data }, { on := 10, ground := Go.Ground.chain }, { on := 0, ground := Go.Ground.phase }, { on := 1, ground := Go.Ground.phase }, { on := 2, ground := Go.Ground.phase }, { on := 3, ground := Go.Ground.phase }, { on := 4, ground := Go.Ground.phase }, { on := 5, ground := Go.Ground.phase }, { on := 6, ground := Go.Ground.phase }, { on := 7, ground := Go.Ground.phase }, { on := 8, ground := Go.Ground.phase }, { on := 9, ground := Go.Ground.textOnly Go.Departure.lateStores }, { on := 10, ground := Go.Ground.phase }], guard := none }) rfl (by kernel_rfl) (by rfl) (fun K hK => ?_)
        go_simp; (try go_bits); refine hK _ _ hS ?_; clear hK K
        (try simp only [Act.put, List.setIfInBounds_toArray, List.set_cons_succ, List.set_cons_zero])
        refine wpE_last (oi := { dst := some 23, op := Go.Op.assign (Go.Operand.tmp 104), type := 3, pos := "outright.go:132", after := #[{ on := 9, ground := Go.Ground.data }, { on := 11, ground := Go.Ground.chain }, { on := 0, ground := Go.Ground.phase }, { on := 1, ground := Go.Ground.phase }, { on := 2, ground := Go.Ground.phase }, { on := 3, ground := Go.Ground.phase }, { on := 4, ground := Go.Ground.phase }, { on := 5, ground := Go.Ground.phase }, { on := 6, ground := Go.Ground.phase }, { on := 7, ground := Go.Ground.phase }, { on := 8, ground := Go.Ground.phase }, { on := 9, ground := Go.Ground.phase }, { on := 10, ground := Go.Ground.phase }, { on := 11, ground := Go.Ground.phase }], guard := none }) rfl (by kernel_rfl) (by kernel_rfl) (by rfl) (fun K hK => ?_)
        go_simp; (try go_bits); refine hK _ _ ?_; clear hK K
        have hwl := HWL.out
        clear hS
        rcases r with _ | _
        · go_wp2
          exact ⟨⟨2, by omega, by omega, by go_num, H11.out⟩, by simp [intOf]⟩
        · go_wp2
          exact ⟨⟨2, by omega, by omega, by go_num, H11.out⟩, by simp [intOf]⟩
      · obtain ⟨r, hr⟩ : ∃ r, letP y 2 = r := ⟨_, rfl⟩
        have hwl : (bits .and .i64 y 2 != 0) = r := (want_let HXY.out.2).2.1.trans hr
        have HWL := Lib.hid hwl
        have HRR := Lib.hid hr
        clear hwl hr
        rw [show ((2 : Nat) : Int) = 2 from rfl]
        go_wp2_with fail
        have hstA : Step (fun _ => False) own8 w8 own8 (wr.alloc (.cells #[.int .i64 0, .int .i64 8, .int .i64 2, .int .i64 4] 3)).drew := (HR.out.trans (step_alloc own8 wr _)).drew
        generalize (wr.alloc (.cells #[.int .i64 0, .int .i64 8, .int .i64 2, .int .i64 4] 3)) = wa at *
        have hbA := (hstA.blk H8.out.2.2.1 H8.out.2.2.2 (fun h => h)).1
        have hcA := hbA.cell 0
        simp only [List.getElem?_toArray, List.getElem?_cons_zero] at hcA
        have H9 := Lib.hid (And.intro hstA (H8.out.2.1.step hstA (by simp)))
        have hltA := hbA.lt
        clear hstA hbA HR
        refine wpE_region (S := fun (W' : World) => W'.cell? ⟨tb, 0, none⟩ = some (.pointer (some ⟨p1, 0, none⟩))) (s := 12) (by kernel_rfl) ?_
        have hS : (fun (W' : World) => W'.cell? ⟨tb, 0, none⟩ = some (.pointer (some ⟨p1, 0, none⟩))) _ := hcA
        refine wpE_take (i := 0) (oi := { dst := some 96, op := Go.Op.fieldAddr 27 (Go.Operand.tmp 10) 0, type := 0, pos := "outright.go:132", after := #[], guard := none }) (v := ?_) rfl (by kernel_rfl) (fun _ _ _ h => h) (Or.inl ⟨by rfl, fun W hW => ?_⟩) hS ?_
        rotate_left
        · (have hw1 : W.cell? ⟨tb, 0, none⟩ = some (.pointer (some ⟨p1, 0, none⟩)) := hW); go_simp; (try go_bits); (try rw [if_pos (by omega)]); (try with_reducible rfl)
        (try simp only [Act.put, List.setIfInBounds_toArray, List.set_cons_succ, List.set_cons_zero])
        refine wpE_take (i := 1) (oi := { dst := some 97, op := Go.Op.load 24 (Go.Operand.tmp 96), type := 24, pos := "outright.go:132", after := #[{ on := 0, ground := Go.Ground.data }], guard := none }) (v := ?_) rfl (by kernel_rfl) (fun _ _ _ h => h) (Or.inl ⟨by rfl, fun W hW => ?_⟩) hS ?_
        rotate_left
        · (have hw1 : W.cell? ⟨tb, 0, none⟩ = some (.pointer (some ⟨p1, 0, none⟩)) := hW); go_simp; (try go_bits); (try rw [if_pos (by omega)]); (try with_reducible rfl)
        (try simp only [Act.put, List.setIfInBounds_toArray, List.set_cons_succ, List.set_cons_zero])
        refine wpE_take (i := 2) (oi := { dst := some 98, op := Go.Op.move (Go.Operand.tmp 7), type := 59, pos := "outright.go:132", after := #[], guard := none }) (v := ?_) rfl (by kernel_rfl) (fun _ _ _ h => h) (Or.inl ⟨by rfl, fun W hW => ?_⟩) hS ?_
        rotate_left
        · (have hw1 : W.cell? ⟨tb, 0, none⟩ = some (.pointer (some ⟨p1, 0, none⟩)) := hW); go_simp; (try go_bits); (try rw [if_pos (by omega)]); (try with_reducible rfl)
        (try simp only [Act.put, List.setIfInBounds_toArray, List.set_cons_succ, List.set_cons_zero])
        refine wpE_take (i := 4) (oi := { dst := some 100, op := Go.Op.move (Go.Operand.tmp 19), type := 3, pos := "outright.go:132", after := #[], guard := none }) (v := ?_) rfl (by kernel_rfl) (fun _ _ _ h => h) (Or.inl ⟨by rfl, fun W hW => ?_⟩) hS ?_
        rotate_left
        · (have hw1 : W.cell? ⟨tb, 0, none⟩ = some (.pointer (some ⟨p1, 0, none⟩)) := hW); go_simp; (try go_bits); (try rw [if_pos (by omega)]); (try with_reducible rfl)
        (try simp only [Act.put, List.setIfInBounds_toArray, List.set_cons_succ, List.set_cons_zero])
        refine wpE_only (i := 3) (oi := { dst := some 99, op := Go.Op.call { callee := Go.Callee.value (Go.Operand.func 57), args := #[Go.Operand.tmp 98], argTypes := #[59] }, type := 30, pos := "outright.go:132", after := #[{ on := 2, ground := Go.Ground.data }], guard := none }) rfl (by kernel_rfl) (by rfl) (fun K hK => ?_)
        go_simp
        refine (sp_Root (t0 := 1) H9.out.2.1.2 H9.out.2.2 (by decide)).mono ?_; rintro q wb ⟨rfl, hSb⟩
        have hS : wb.cell? ⟨tb, 0, none⟩ = some (.pointer (some ⟨p1, 0, none⟩)) := (hSb.upd.cell (p := ⟨tb, 0, none⟩) hltA (fun h => h)).trans hcA
        have HlB := Lib.hid (Nat.lt_of_lt_of_le hltA hSb.upd.size)
        have H10 := Lib.hid (And.intro (H9.out.1.trans hSb) (H9.out.2.step hSb (by simp)))
        clear hSb H9
        refine hK _ _ hS ?_; clear hK K
        (try simp only [Act.put, List.setIfInBounds_toArray, List.set_cons_succ, List.set_cons_zero])
        refine wpE_only (i := 5) (oi := { dst := some 101, op := Go.Op.call { callee := Go.Callee.value (Go.Operand.func 56), args := #[Go.Operand.tmp 97, Go.Operand.tmp 99, Go.Operand.const (Go.Value.int Go.IntKind.u64 2147483656), Go.Operand.tmp 100], argTypes := #[24, 30, 30, 3] }, type := 93, pos := "outright.go:132", after := #[{ on := 1, ground := Go.Ground.data }, { on := 3, ground := Go.Ground.data }, { on := 4, ground := Go.Ground.data }, { on := 3, ground := Go.Ground.chain }], guard := none }) rfl (by kernel_rfl) (by rfl) (fun K hK => ?_)
        go_simp
        have hGu := page_Guest (acc := 2) (a := 2147483656) H10.out.2.1.2 (by decide) HK8.out.2.1 (by decide) (by decide) (by decide)
        rw [HRR.out] at hGu
        refine hGu.mono ?_; rintro q wc ⟨rfl, hUc⟩
        have hS : wc.cell? ⟨tb, 0, none⟩ = some (.pointer (some ⟨p1, 0, none⟩)) := (hUc.cell (p := ⟨tb, 0, none⟩) HlB.out (fun h => h)).trans hS
        have H11 := Lib.hid (H10.out.1.trans (show Step (fun _ => False) own8 wb own8 wc from ⟨hUc, fun _ _ => rfl⟩))
        clear hUc H10 hGu
        refine hK _ _ hS ?_; clear hK K
        (try simp only [Act.put, List.setIfInBounds_toArray, List.set_cons_succ, List.set_cons_zero])
        refine wpE_take (i := 6) (oi := { dst := some 95, op := Go.Op.move (Go.Operand.tmp 101), type := 93, pos := "outright.go:132", after := #[{ on := 5, ground := Go.Ground.data }], guard := none }) (v := ?_) rfl (by kernel_rfl) (fun _ _ _ h => h) (Or.inl ⟨by rfl, fun W hW => ?_⟩) hS ?_
        rotate_left
        · (have hw1 : W.cell? ⟨tb, 0, none⟩ = some (.pointer (some ⟨p1, 0, none⟩)) := hW); go_simp; (try go_bits); (try rw [if_pos (by omega)]); (try with_reducible rfl)
        (try simp only [Act.put, List.setIfInBounds_toArray, List.set_cons_succ, List.set_cons_zero])
        refine wpE_take (i := 7) (oi := { dst := some 102, op := Go.Op.extract (Go.Operand.tmp 95) 0, type := 30, pos := "outright.go:132", after := #[{ on := 6, ground := Go.Ground.data }], guard := none }) (v := ?_) rfl (by kernel_rfl) (fun _ _ _ h => h) (Or.inl ⟨by rfl, fun W hW => ?_⟩) hS ?_
        rotate_left
        · (have hw1 : W.cell? ⟨tb, 0, none⟩ = some (.pointer (some ⟨p1, 0, none⟩)) := hW); go_simp; (try go_bits); (try rw [if_pos (by omega)]); (try with_reducible rfl)
        (try simp only [Act.put, List.setIfInBounds_toArray, List.set_cons_succ, List.set_cons_zero])
        refine wpE_take (i := 8) (oi := { dst := some 103, op := Go.Op.extract (Go.Operand.tmp 95) 1, type := 3, pos := "outright.go:132", after := #[{ on := 6, ground := Go.Ground.data }, { on := 10, ground := Go.Ground.gcOnly Go.Departure.lateStores }], guard := none }) (v := ?_) rfl (by kernel_rfl) (fun _ _ _ h => h) (Or.inl ⟨by rfl, fun W hW => ?_⟩) hS ?_
        rotate_left
        · (have hw1 : W.cell? ⟨tb, 0, none⟩ = some (.pointer (some ⟨p1, 0, none⟩)) := hW); go_simp; (try go_bits); (try rw [if_pos (by omega)]); (try with_reducible rfl)
        (try simp only [Act.put, List.setIfInBounds_toArray, List.set_cons_succ, List.set_cons_zero])
        refine wpE_take (i := 9) (oi := { dst := some 104, op := Go.Op.extract (Go.Operand.tmp 95) 2, type := 3, pos := "outright.go:132", after := #[{ on := 6, ground := Go.Ground.data }, { on := 11, ground := Go.Ground.gcOnly Go.Departure.lateStores }], guard := none }) (v := ?_) rfl (by kernel_rfl) (fun _ _ _ h => h) (Or.inl ⟨by rfl, fun W hW => ?_⟩) hS ?_
        rotate_left
        · (have hw1 : W.cell? ⟨tb, 0, none⟩ = some (.pointer (some ⟨p1, 0, none⟩)) := hW); go_simp; (try go_bits); (try rw [if_pos (by omega)]); (try with_reducible rfl)
        (try simp only [Act.put, List.setIfInBounds_toArray, List.set_cons_succ, List.set_cons_zero])
        refine wpE_only (i := 10) (oi := { dst := some 21, op := Go.Op.assign (Go.Operand.tmp 102), type := 30, pos := "outright.go:132", after := #[{ on := 7, ground := Go.Ground.data }, { on := 5, ground := Go.Ground.chain }, { on := 0, ground := Go.Ground.phase }, { on := 1, ground := Go.Ground.phase }, { on := 2, ground := Go.Ground.phase }, { on := 3, ground := Go.Ground.phase }, { on := 4, ground := Go.Ground.phase }, { on := 5, ground := Go.Ground.phase }, { on := 6, ground := Go.Ground.phase }, { on := 7, ground := Go.Ground.phase }, { on := 8, ground := Go.Ground.textOnly Go.Departure.lateStores }, { on := 9, ground := Go.Ground.textOnly Go.Departure.lateStores }], guard := none }) rfl (by kernel_rfl) (by rfl) (fun K hK => ?_)
        go_simp; (try go_bits); refine hK _ _ hS ?_; clear hK K
        (try simp only [Act.put, List.setIfInBounds_toArray, List.set_cons_succ, List.set_cons_zero])
        refine wpE_only (i := 11) (oi := { dst := some 22, op := Go.Op.assign (Go.Operand.tmp 103), type := 3, pos := "outright.go:132", after := #[{ on := 8, ground := Go.Ground.data }, { on := 10, ground := Go.Ground.chain }, { on := 0, ground := Go.Ground.phase }, { on := 1, ground := Go.Ground.phase }, { on := 2, ground := Go.Ground.phase }, { on := 3, ground := Go.Ground.phase }, { on := 4, ground := Go.Ground.phase }, { on := 5, ground := Go.Ground.phase }, { on := 6, ground := Go.Ground.phase }, { on := 7, ground := Go.Ground.phase }, { on := 8, ground := Go.Ground.phase }, { on := 9, ground := Go.Ground.textOnly Go.Departure.lateStores }, { on := 10, ground := Go.Ground.phase }], guard := none }) rfl (by kernel_rfl) (by rfl) (fun K hK => ?_)
        go_simp; (try go_bits); refine hK _ _ hS ?_; clear hK K
        (try simp only [Act.put, List.setIfInBounds_toArray, List.set_cons_succ, List.set_cons_zero])
        refine wpE_last (oi := { dst := some 23, op := Go.Op.assign (Go.Operand.tmp 104), type := 3, pos := "outright.go:132", after := #[{ on := 9, ground := Go.Ground.data }, { on := 11, ground := Go.Ground.chain }, { on := 0, ground := Go.Ground.phase }, { on := 1, ground := Go.Ground.phase }, { on := 2, ground := Go.Ground.phase }, { on := 3, ground := Go.Ground.phase }, { on := 4, ground := Go.Ground.phase }, { on := 5, ground := Go.Ground.phase }, { on := 6, ground := Go.Ground.phase }, { on := 7, ground := Go.Ground.phase }, { on := 8, ground := Go.Ground.phase }, { on := 9, ground := Go.Ground.phase }, { on := 10, ground := Go.Ground.phase }, { on := 11, ground := Go.Ground.phase }], guard := none }) rfl (by kernel_rfl) (by kernel_rfl) (by rfl) (fun K hK => ?_)
        go_simp; (try go_bits); refine hK _ _ ?_; clear hK K
        have hwl := HWL.out
        clear hS
        rcases r with _ | _
        · go_wp2
          exact ⟨⟨3, by omega, by omega, by go_num, H11.out⟩, by simp [intOf]⟩
        · go_wp2
          exact ⟨⟨3, by omega, by omega, by go_num, H11.out⟩, by simp [intOf]⟩
      · obtain ⟨r, hr⟩ : ∃ r, letP y 3 = r := ⟨_, rfl⟩
        have hwl : (bits .and .i64 y 4 != 0) = r := (want_let HXY.out.2).2.2.trans hr
        have HWL := Lib.hid hwl
        have HRR := Lib.hid hr
        clear hwl hr
        rw [show ((3 : Nat) : Int) = 3 from rfl]
        go_wp2_with fail
        have hstA : Step (fun _ => False) own8 w8 own8 (wr.alloc (.cells #[.int .i64 0, .int .i64 8, .int .i64 2, .int .i64 4] 3)).drew := (HR.out.trans (step_alloc own8 wr _)).drew
        generalize (wr.alloc (.cells #[.int .i64 0, .int .i64 8, .int .i64 2, .int .i64 4] 3)) = wa at *
        have hbA := (hstA.blk H8.out.2.2.1 H8.out.2.2.2 (fun h => h)).1
        have hcA := hbA.cell 0
        simp only [List.getElem?_toArray, List.getElem?_cons_zero] at hcA
        have H9 := Lib.hid (And.intro hstA (H8.out.2.1.step hstA (by simp)))
        have hltA := hbA.lt
        clear hstA hbA HR
        refine wpE_region (S := fun (W' : World) => W'.cell? ⟨tb, 0, none⟩ = some (.pointer (some ⟨p1, 0, none⟩))) (s := 12) (by kernel_rfl) ?_
        have hS : (fun (W' : World) => W'.cell? ⟨tb, 0, none⟩ = some (.pointer (some ⟨p1, 0, none⟩))) _ := hcA
        refine wpE_take (i := 0) (oi := { dst := some 96, op := Go.Op.fieldAddr 27 (Go.Operand.tmp 10) 0, type := 0, pos := "outright.go:132", after := #[], guard := none }) (v := ?_) rfl (by kernel_rfl) (fun _ _ _ h => h) (Or.inl ⟨by rfl, fun W hW => ?_⟩) hS ?_
        rotate_left
        · (have hw1 : W.cell? ⟨tb, 0, none⟩ = some (.pointer (some ⟨p1, 0, none⟩)) := hW); go_simp; (try go_bits); (try rw [if_pos (by omega)]); (try with_reducible rfl)
        (try simp only [Act.put, List.setIfInBounds_toArray, List.set_cons_succ, List.set_cons_zero])
        refine wpE_take (i := 1) (oi := { dst := some 97, op := Go.Op.load 24 (Go.Operand.tmp 96), type := 24, pos := "outright.go:132", after := #[{ on := 0, ground := Go.Ground.data }], guard := none }) (v := ?_) rfl (by kernel_rfl) (fun _ _ _ h => h) (Or.inl ⟨by rfl, fun W hW => ?_⟩) hS ?_
        rotate_left
        · (have hw1 : W.cell? ⟨tb, 0, none⟩ = some (.pointer (some ⟨p1, 0, none⟩)) := hW); go_simp; (try go_bits); (try rw [if_pos (by omega)]); (try with_reducible rfl)
        (try simp only [Act.put, List.setIfInBounds_toArray, List.set_cons_succ, List.set_cons_zero])
        refine wpE_take (i := 2) (oi := { dst := some 98, op := Go.Op.move (Go.Operand.tmp 7), type := 59, pos := "outright.go:132", after := #[], guard := none }) (v := ?_) rfl (by kernel_rfl) (fun _ _ _ h => h) (Or.inl ⟨by rfl, fun W hW => ?_⟩) hS ?_
        rotate_left
        · (have hw1 : W.cell? ⟨tb, 0, none⟩ = some (.pointer (some ⟨p1, 0, none⟩)) := hW); go_simp; (try go_bits); (try rw [if_pos (by omega)]); (try with_reducible rfl)
        (try simp only [Act.put, List.setIfInBounds_toArray, List.set_cons_succ, List.set_cons_zero])
        refine wpE_take (i := 4) (oi := { dst := some 100, op := Go.Op.move (Go.Operand.tmp 19), type := 3, pos := "outright.go:132", after := #[], guard := none }) (v := ?_) rfl (by kernel_rfl) (fun _ _ _ h => h) (Or.inl ⟨by rfl, fun W hW => ?_⟩) hS ?_
        rotate_left
        · (have hw1 : W.cell? ⟨tb, 0, none⟩ = some (.pointer (some ⟨p1, 0, none⟩)) := hW); go_simp; (try go_bits); (try rw [if_pos (by omega)]); (try with_reducible rfl)
        (try simp only [Act.put, List.setIfInBounds_toArray, List.set_cons_succ, List.set_cons_zero])
        refine wpE_only (i := 3) (oi := { dst := some 99, op := Go.Op.call { callee := Go.Callee.value (Go.Operand.func 57), args := #[Go.Operand.tmp 98], argTypes := #[59] }, type := 30, pos := "outright.go:132", after := #[{ on := 2, ground := Go.Ground.data }], guard := none }) rfl (by kernel_rfl) (by rfl) (fun K hK => ?_)
        go_simp
        refine (sp_Root (t0 := 1) H9.out.2.1.2 H9.out.2.2 (by decide)).mono ?_; rintro q wb ⟨rfl, hSb⟩
        have hS : wb.cell? ⟨tb, 0, none⟩ = some (.pointer (some ⟨p1, 0, none⟩)) := (hSb.upd.cell (p := ⟨tb, 0, none⟩) hltA (fun h => h)).trans hcA
        have HlB := Lib.hid (Nat.lt_of_lt_of_le hltA hSb.upd.size)
        have H10 := Lib.hid (And.intro (H9.out.1.trans hSb) (H9.out.2.step hSb (by simp)))
        clear hSb H9
        refine hK _ _ hS ?_; clear hK K
        (try simp only [Act.put, List.setIfInBounds_toArray, List.set_cons_succ, List.set_cons_zero])
        refine wpE_only (i := 5) (oi := { dst := some 101, op := Go.Op.call { callee := Go.Callee.value (Go.Operand.func 56), args := #[Go.Operand.tmp 97, Go.Operand.tmp 99, Go.Operand.const (Go.Value.int Go.IntKind.u64 2147483656), Go.Operand.tmp 100], argTypes := #[24, 30, 30, 3] }, type := 93, pos := "outright.go:132", after := #[{ on := 1, ground := Go.Ground.data }, { on := 3, ground := Go.Ground.data }, { on := 4, ground := Go.Ground.data }, { on := 3, ground := Go.Ground.chain }], guard := none }) rfl (by kernel_rfl) (by rfl) (fun K hK => ?_)
        go_simp
        have hGu := page_Guest (acc := 3) (a := 2147483656) H10.out.2.1.2 (by decide) HK8.out.2.1 (by decide) (by decide) (by decide)
        rw [HRR.out] at hGu
        refine hGu.mono ?_; rintro q wc ⟨rfl, hUc⟩
        have hS : wc.cell? ⟨tb, 0, none⟩ = some (.pointer (some ⟨p1, 0, none⟩)) := (hUc.cell (p := ⟨tb, 0, none⟩) HlB.out (fun h => h)).trans hS
        have H11 := Lib.hid (H10.out.1.trans (show Step (fun _ => False) own8 wb own8 wc from ⟨hUc, fun _ _ => rfl⟩))
        clear hUc H10 hGu
        refine hK _ _ hS ?_; clear hK K
        (try simp only [Act.put, List.setIfInBounds_toArray, List.set_cons_succ, List.set_cons_zero])
        refine wpE_take (i := 6) (oi := { dst := some 95, op := Go.Op.move (Go.Operand.tmp 101), type := 93, pos := "outright.go:132", after := #[{ on := 5, ground := Go.Ground.data }], guard := none }) (v := ?_) rfl (by kernel_rfl) (fun _ _ _ h => h) (Or.inl ⟨by rfl, fun W hW => ?_⟩) hS ?_
        rotate_left
        · (have hw1 : W.cell? ⟨tb, 0, none⟩ = some (.pointer (some ⟨p1, 0, none⟩)) := hW); go_simp; (try go_bits); (try rw [if_pos (by omega)]); (try with_reducible rfl)
        (try simp only [Act.put, List.setIfInBounds_toArray, List.set_cons_succ, List.set_cons_zero])
        refine wpE_take (i := 7) (oi := { dst := some 102, op := Go.Op.extract (Go.Operand.tmp 95) 0, type := 30, pos := "outright.go:132", after := #[{ on := 6, ground := Go.Ground.data }], guard := none }) (v := ?_) rfl (by kernel_rfl) (fun _ _ _ h => h) (Or.inl ⟨by rfl, fun W hW => ?_⟩) hS ?_
        rotate_left
        · (have hw1 : W.cell? ⟨tb, 0, none⟩ = some (.pointer (some ⟨p1, 0, none⟩)) := hW); go_simp; (try go_bits); (try rw [if_pos (by omega)]); (try with_reducible rfl)
        (try simp only [Act.put, List.setIfInBounds_toArray, List.set_cons_succ, List.set_cons_zero])
        refine wpE_take (i := 8) (oi := { dst := some 103, op := Go.Op.extract (Go.Operand.tmp 95) 1, type := 3, pos := "outright.go:132", after := #[{ on := 6, ground := Go.Ground.data }, { on := 10, ground := Go.Ground.gcOnly Go.Departure.lateStores }], guard := none }) (v := ?_) rfl (by kernel_rfl) (fun _ _ _ h => h) (Or.inl ⟨by rfl, fun W hW => ?_⟩) hS ?_
        rotate_left
        · (have hw1 : W.cell? ⟨tb, 0, none⟩ = some (.pointer (some ⟨p1, 0, none⟩)) := hW); go_simp; (try go_bits); (try rw [if_pos (by omega)]); (try with_reducible rfl)
        (try simp only [Act.put, List.setIfInBounds_toArray, List.set_cons_succ, List.set_cons_zero])
        refine wpE_take (i := 9) (oi := { dst := some 104, op := Go.Op.extract (Go.Operand.tmp 95) 2, type := 3, pos := "outright.go:132", after := #[{ on := 6, ground := Go.Ground.data }, { on := 11, ground := Go.Ground.gcOnly Go.Departure.lateStores }], guard := none }) (v := ?_) rfl (by kernel_rfl) (fun _ _ _ h => h) (Or.inl ⟨by rfl, fun W hW => ?_⟩) hS ?_
        rotate_left
        · (have hw1 : W.cell? ⟨tb, 0, none⟩ = some (.pointer (some ⟨p1, 0, none⟩)) := hW); go_simp; (try go_bits); (try rw [if_pos (by omega)]); (try with_reducible rfl)
        (try simp only [Act.put, List.setIfInBounds_toArray, List.set_cons_succ, List.set_cons_zero])
        refine wpE_only (i := 10) (oi := { dst := some 21, op := Go.Op.assign (Go.Operand.tmp 102), type := 30, pos := "outright.go:132", after := #[{ on := 7, ground := Go.Ground.data }, { on := 5, ground := Go.Ground.chain }, { on := 0, ground := Go.Ground.phase }, { on := 1, ground := Go.Ground.phase }, { on := 2, ground := Go.Ground.phase }, { on := 3, ground := Go.Ground.phase }, { on := 4, ground := Go.Ground.phase }, { on := 5, ground := Go.Ground.phase }, { on := 6, ground := Go.Ground.phase }, { on := 7, ground := Go.Ground.phase }, { on := 8, ground := Go.Ground.textOnly Go.Departure.lateStores }, { on := 9, ground := Go.Ground.textOnly Go.Departure.lateStores }], guard := none }) rfl (by kernel_rfl) (by rfl) (fun K hK => ?_)
        go_simp; (try go_bits); refine hK _ _ hS ?_; clear hK K
        (try simp only [Act.put, List.setIfInBounds_toArray, List.set_cons_succ, List.set_cons_zero])
        refine wpE_only (i := 11) (oi := { dst := some 22, op := Go.Op.assign (Go.Operand.tmp 103), type := 3, pos := "outright.go:132", after := #[{ on := 8, ground := Go.Ground.data }, { on := 10, ground := Go.Ground.chain }, { on := 0, ground := Go.Ground.phase }, { on := 1, ground := Go.Ground.phase }, { on := 2, ground := Go.Ground.phase }, { on := 3, ground := Go.Ground.phase }, { on := 4, ground := Go.Ground.phase }, { on := 5, ground := Go.Ground.phase }, { on := 6, ground := Go.Ground.phase }, { on := 7, ground := Go.Ground.phase }, { on := 8, ground := Go.Ground.phase }, { on := 9, ground := Go.Ground.textOnly Go.Departure.lateStores }, { on := 10, ground := Go.Ground.phase }], guard := none }) rfl (by kernel_rfl) (by rfl) (fun K hK => ?_)
        go_simp; (try go_bits); refine hK _ _ hS ?_; clear hK K
        (try simp only [Act.put, List.setIfInBounds_toArray, List.set_cons_succ, List.set_cons_zero])
        refine wpE_last (oi := { dst := some 23, op := Go.Op.assign (Go.Operand.tmp 104), type := 3, pos := "outright.go:132", after := #[{ on := 9, ground := Go.Ground.data }, { on := 11, ground := Go.Ground.chain }, { on := 0, ground := Go.Ground.phase }, { on := 1, ground := Go.Ground.phase }, { on := 2, ground := Go.Ground.phase }, { on := 3, ground := Go.Ground.phase }, { on := 4, ground := Go.Ground.phase }, { on := 5, ground := Go.Ground.phase }, { on := 6, ground := Go.Ground.phase }, { on := 7, ground := Go.Ground.phase }, { on := 8, ground := Go.Ground.phase }, { on := 9, ground := Go.Ground.phase }, { on := 10, ground := Go.Ground.phase }, { on := 11, ground := Go.Ground.phase }], guard := none }) rfl (by kernel_rfl) (by kernel_rfl) (by rfl) (fun K hK => ?_)
        go_simp; (try go_bits); refine hK _ _ ?_; clear hK K
        have hwl := HWL.out
        clear hS
        rcases r with _ | _
        · go_wp2
          exact ⟨⟨4, by omega, by omega, by go_num, H11.out⟩, by simp [intOf]⟩
        · go_wp2
          exact ⟨⟨4, by omega, by omega, by go_num, H11.out⟩, by simp [intOf]⟩
      · have H9 := Lib.hid (And.intro (H8.out.1.trans (HR.out.mono (fun _ h => h.elim))) (H8.out.2.1.step HR.out (by simp)))
        have HN := Lib.hid (sp_Protect_no (t0 := 1) (page := 524289) H9.out.2 (by decide) HXY.out.2 HK8.out.2.2.1 HK8.out.2.2.2)
        clear HR H8
        rw [show ((4 : Nat) : Int) = 4 from rfl]
        go_wp2_with fail
        refine HN.out.mono ?_; rintro q wb ⟨rfl, hSb⟩
        have H10 := Lib.hid (H9.out.1.trans (hSb.mono (fun _ h => h.elim)))
        clear hSb HN H9
        go_wp2_with fail
        refine (sp_Protect_bad 524288 (by decide) _).mono ?_; rintro q wz ⟨rfl, rfl⟩
        go_wp2_with fail
        refine (awake10 _).mono ?_; rintro q wd ⟨rfl, hUd⟩
        have H11 := Lib.hid ((upd_end H10.out).trans hUd)
        clear hUd H10
        go_wp2
        go_ret
        exact ⟨rfl, H11.out⟩
end Go.Proofs.Ytpodeclkgcgpgaa
