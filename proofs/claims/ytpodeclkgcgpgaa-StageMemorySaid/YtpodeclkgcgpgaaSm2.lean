import Derived.Test.YtpodeclkgcgpgaaSm
/- StageMemory's walk. -/
namespace Go.Proofs.Ytpodeclkgcgpgaa
set_option linter.unusedVariables false
set_option linter.unusedSimpArgs false
open Go.RowKit
set_option maxRecDepth 100000

set_option maxHeartbeats 4000000 in
theorem memory_calls (at' size v : Int) (sw : Bool) (w : World) (hat : wfI at') (hsz : wfI size) (hv : wfU v) :
    Calls Try.prog 8 #[.int .i64 at', .int .i64 size, .int .u64 v, .bool sw] w fun e w' => e = .returned (.bool true) ∧ Upd (fun _ => False) w w' := by
  obtain ⟨F, hF⟩ : ∃ F : Nat, F = 3 := ⟨_, rfl⟩
  obtain ⟨G, hG⟩ : ∃ G : Nat, G = 4 := ⟨_, rfl⟩
  have hT1 : takeP s16.ow 1 = ((F : Int), 0, s16.ow.set 3 1) := by subst hF; exact take16a
  have hT2 : takeP (s16.ow.set 3 1) 1 = ((G : Int), 0, (s16.ow.set 3 1).set 4 1) := by subst hG; exact take16b
  have HT := Lib.hid (And.intro hT1 hT2)
  have HFG := Lib.hid (And.intro hF hG)
  have HWF := Lib.hid (And.intro hat (And.intro hsz hv))
  clear hT1 hT2 hF hG hat hsz hv
  go_enter Try.func8, Try.ntmps8
  go_wp2_with fail
  refine (law10_spaces w).mono ?_
  rintro e w1 ⟨sa, sb, pp, p1, p2, own1, rfl, hS1, hG1, _⟩
  have hst : Step (fun _ => False) own1 w1 (ext own1 w1 0) (w1.alloc (.cells #[.pointer (some ⟨p1, 0, none⟩), .pointer (some ⟨p2, 0, none⟩)] 27)) := ⟨(Upd.refl _ _).alloc _, fun b hb => ext_old _ _ _ hb⟩
  have hB := Blk.new w1 27 #[.pointer (some ⟨p1, 0, none⟩), .pointer (some ⟨p2, 0, none⟩)]
  have H1 := Lib.hid (And.intro (hS1.trans (hst.mono (fun _ h => h.elim))) (And.intro (hG1.step hst (by simp)) (And.intro hB (show ext own1 w1 0 w1.heap.size = 0 from ext_new _ _ _ (Nat.le_refl _)))))
  clear hS1 hG1 hst hB
  have HTk := Lib.hid (gs_Take H1.out.2.1 1 F _ HT.out.1)
  go_wp2_with fail
  generalize w1.heap.size = tb at *
  refine HTk.out.mono ?_; rintro e w2 ⟨rfl, hS2, hG2⟩
  have H2 := Lib.hid (And.intro (H1.out.1.trans (hS2.mono (fun x h => by omega))) (And.intro hG2 (hS2.blk H1.out.2.2.1 H1.out.2.2.2 (by omega))))
  clear hS2 hG2 HTk H1
  have HTk := Lib.hid (gs_Take H2.out.2.1 1 G _ HT.out.2)
  go_wp2_with fail
  refine HTk.out.mono ?_; rintro e w3 ⟨rfl, hS3, hG3⟩
  have H3 := Lib.hid (And.intro (H2.out.1.trans (hS3.mono (fun x h => by omega))) (And.intro (show GS (ext own1 w1 0) w3 sa p1 pp 1 16 1 1 sM [1] from hG3) (hS3.blk H2.out.2.2.1 H2.out.2.2.2 (by omega))))
  clear hS3 hG3 HTk H2 HT
  generalize ext own1 w1 0 = own3 at *
  rcases sw with _ | _
  go_wp2_with fail
  rotate_left
  go_wp2_with fail
  rotate_left
  obtain ⟨f, g, hfg, rfl, rfl⟩ : ∃ f g, FG f g ∧ f = F ∧ g = G := ⟨F, G, Or.inl HFG.out, rfl, rfl⟩
  rotate_left
  obtain ⟨f, g, hfg, rfl, rfl⟩ : ∃ f g, FG f g ∧ f = G ∧ g = F := ⟨G, F, Or.inr ⟨HFG.out.2, HFG.out.1⟩, rfl, rfl⟩
  all_goals
    have hf16 : f < 16 ∧ g < 16 := by unfold FG at hfg; omega
    have HM1 := Lib.hid (sp_Map (t0 := 1) (page := 524288) (fr := f) (p := 6) H3.out.2.1 (by decide) (by decide) hf16.1 (by unfold permOk; omega) sM_bl sM_nf sM_dn)
    refine HM1.out.mono ?_; rintro e w4 ⟨rfl, own4, hS4, hG4⟩
    have hG4' : GS own4 w4 sa p1 pp 1 16 1 1 (mA f) [1, 5, 6] := by rw [← sM_ts]; exact hG4
    have H4 := Lib.hid (And.intro (H3.out.1.trans (hS4.mono (fun x h => by omega))) (And.intro hG4' (hS4.blk H3.out.2.2.1 H3.out.2.2.2 (by omega))))
    clear hS4 hG4 hG4' HM1 H3
    have HM2 := Lib.hid (sp_Map (t0 := 1) (page := 524289) (fr := g) (p := 6) H4.out.2.1 (by decide) (by decide) hf16.2 (by unfold permOk; omega) (mA_bl hfg) (mA_nf hfg) (mA_dn hfg))
    have HFG2 := Lib.hid hfg
    clear hfg
    go_wp2_with fail
    refine HM2.out.mono ?_; rintro e w5 ⟨rfl, own5, hS5, hG5⟩
    have hG5' : GS own5 w5 sa p1 pp 1 16 1 1 (mB f g) [1, 5, 6] := by rw [← mA_ts HFG2.out]; exact hG5
    have H5 := Lib.hid (And.intro (H4.out.1.trans (hS5.mono (fun x h => by omega))) (And.intro hG5' (hS5.blk H4.out.2.2.1 H4.out.2.2.2 (by omega))))
    clear hS5 hG5 hG5' HM2 H4
    have hsz := HWF.out.2.1
    obtain ⟨hz0, hz1⟩ := hsz
    have HPl := Lib.hid (fun w => place_calls size 4 w hz0 hz1 (by omega) (by omega))
    obtain ⟨r, hr⟩ : ∃ r : Nat, size % 4 = (r : Int) := ⟨(size % 4).toNat, by omega⟩
    have hr4 : r < 4 := by omega
    rw [hr] at HPl
    clear hr hz0 hz1
    go_wp2_with fail
    refine (HPl.out _).mono ?_; rintro e wz ⟨rfl, rfl⟩
    go_wp2_with fail
    obtain ⟨k, hk, hkl⟩ : ∃ k : Nat, (k = 1 ∨ k = 2 ∨ k = 4 ∨ k = 8) ∧ ∀ h : r < [Value.int .i64 1, .int .i64 2, .int .i64 4, .int .i64 8].length, [Value.int .i64 1, .int .i64 2, .int .i64 4, .int .i64 8][r]'h = .int .i64 (k : Int) := by
      rcases (show r = 0 ∨ r = 1 ∨ r = 2 ∨ r = 3 by omega) with rfl | rfl | rfl | rfl
      · exact ⟨1, by omega, fun _ => rfl⟩
      · exact ⟨2, by omega, fun _ => rfl⟩
      · exact ⟨4, by omega, fun _ => rfl⟩
      · exact ⟨8, by omega, fun _ => rfl⟩
    simp only [hkl]
    clear hkl hr4 HPl
    have hst6 := step_alloc own5 w5 (.cells #[.int .i64 1, .int .i64 2, .int .i64 4, .int .i64 8] 3)
    have hbx := hst6.blk H5.out.2.2.1 H5.out.2.2.2 (fun h => h)
    have H6 := Lib.hid (And.intro (H5.out.1.trans (hst6.mono (fun _ h => h.elim))) (And.intro (H5.out.2.1.step hst6 (by simp)) hbx))
    clear hst6 hbx H5
    have hk1 : 1 ≤ k ∧ k ≤ 8 := by omega
    have HK := Lib.hid hk
    clear hk
    obtain ⟨hk1, hk8⟩ := hk1
    have hat := HWF.out.1
    obtain ⟨hz0, hz1⟩ := hat
    obtain ⟨x, hx⟩ : ∃ x : Nat, at' % (8192 - (k : Int) + 1) = (x : Int) := ⟨(at' % (8192 - (k : Int) + 1)).toNat, by have := Int.emod_nonneg at' (show (8192 - (k : Int) + 1) ≠ 0 by omega); omega⟩
    have hxk : x + k ≤ 8192 := by have := Int.emod_lt_of_pos at' (show 0 < (8192 - (k : Int) + 1) by omega); omega
    have HPl := Lib.hid (fun w => place_calls at' (8192 - (k : Int) + 1) w hz0 hz1 (by omega) (by omega))
    rw [hx] at HPl
    clear hx hz0 hz1
    go_simp
    (try go_bits)
    go_wp2_with fail
    refine (HPl.out _).mono ?_; rintro e wz ⟨rfl, rfl⟩
    have hA := sp_Has_ok (t0 := 1) (fr := frM f g) (pm := fun _ => 6) (2147483648 + x) k (by omega) (by omega) H6.out.2.1.1.2 H6.out.2.1.2 (fun page h1 h2 => Kept.map HFG2.out (m' := (mB f g).m) (fun _ _ => rfl) page (by omega) (by omega))
    rw [show ((2147483648 + x : Nat) : Int) = 2147483648 + (x : Int) from by omega] at hA
    have HA := Lib.hid hA
    clear hA HPl
    go_wp2_with fail
    refine HA.out.mono ?_; rintro e w7 ⟨rfl, hS7⟩
    have H7 := Lib.hid (And.intro (H6.out.1.trans (hS7.mono (fun _ h => h.elim))) (And.intro (H6.out.2.1.step hS7 (by simp)) (hS7.blk H6.out.2.2.1 H6.out.2.2.2 (fun h => h))))
    clear hS7 H6 HA
    have hW := sp_Write_ok (t0 := 1) (fr := frM f g) (pm := fun _ => 6) (D := fun y => y = f ∨ y = g) (2147483648 + x) k v HK.out (by omega) HWF.out.2.2 H7.out.2.1
      (fun m' hm page h1 h2 => Kept.map HFG2.out hm page (by omega) (by omega)) (fun page h1 h2 => by show frM f g page = f ∨ frM f g page = g; unfold frM; split; exact Or.inl rfl; exact Or.inr rfl) (fun _ _ _ => by decide)
    rw [show ((2147483648 + x : Nat) : Int) = 2147483648 + (x : Int) from by omega] at hW
    have HW := Lib.hid hW
    clear hW
    go_wp2_with fail
    refine HW.out.mono ?_; rintro e w8 ⟨rfl, own8, hS8, hG8⟩
    have H8 := Lib.hid (And.intro (H7.out.1.trans (hS8.mono (fun x h => by omega))) (And.intro (show MemAt ramK own8 1 w8 p1 0 16 (mW f g x v k) from hG8.1.2) (And.intro hG8.2 (hS8.blk H7.out.2.2.1 H7.out.2.2.2 (by omega)))))
    clear hS8 hG8 HW H7
    go_wp2
    go_loopw [20] (fun i wr => ∃ (j : Nat), j ≤ k ∧ i = .int .i64 (j : Int) ∧ Hid (Step (fun _ => False) own8 w8 own8 wr)) (fun i _ => k - (intOf i).toNat)
    case atStart => exact ⟨0, by omega, rfl, Step.refl _ _ _⟩
    case round =>
      obtain ⟨j, hj, rfl, HR⟩ := hrel
      by_cases hlt : j < k
      · have hlt' : (j : Int) < (k : Int) := by omega
        have hM9 := H8.out.2.1.step HR.out (fun h => h)
        have c0 := (HR.out.blk H8.out.2.2.2.1 H8.out.2.2.2.2 (fun h => h)).1.cell 0
        simp only [List.getElem?_toArray, List.getElem?_cons_zero] at c0
        have hat9 := mW_at (f := f) (g := g) (v := v) HFG2.out hxk j hlt
        have H9 := Lib.hid (And.intro HR.out hM9)
        have hcmp : (byteOf v j != (v / 2 ^ (8 * j)).tmod 256) = false := by
          rw [Int.tmod_eq_emod_of_nonneg (Int.ediv_nonneg HWF.out.2.2.1 (by have := Int.pow_pos (n := 2) (m := 8 * j) (by decide); omega)), shr_byte v j]
          simp
        have h8q : IntKind.i64.wrap (8 * (j : Int)) = 8 * (j : Int) := IntWalk.i64_in _ (by omega)
        clear hM9 HR
        by_cases hlo : x + j < 4096
        · rw [if_pos hlo] at hat9
          have hlo' : decide ((4096 : Int) ≤ (x : Int) + (j : Int)) = false := by simp; omega
          have hR := ram_Read H9.out.2 ((f * 4096 + (x + j) : Nat) : Int) 1 (by omega) (by omega) (by omega) (by omega)
          rw [rd1 (by omega), hat9, show ((f * 4096 + (x + j) : Nat) : Int) = (f : Int) * 4096 + ((x : Int) + (j : Int)) from by omega] at hR
          have HRd := Lib.hid hR
          clear hR hat9
          go_wp2_with fail
          refine HRd.out.mono ?_; rintro e wq ⟨rfl, kk, rfl⟩
          have H10 := Lib.hid (H9.out.1.trans (show Step (fun _ => False) own8 wr own8 (wr.drewN kk) from ⟨(Upd.refl _ _).drewN _, fun _ _ => rfl⟩))
          clear HRd H9 hlo'
          go_wp2
          exact ⟨⟨j + 1, by omega, by go_num, H10.out⟩, by simp [intOf]; omega⟩
        · rw [if_neg hlo] at hat9
          have hlo' : decide ((4096 : Int) ≤ (x : Int) + (j : Int)) = true := by simp; omega
          have hlo2 : (4096 : Int) ≤ (x : Int) + (j : Int) := by omega
          have hR := ram_Read H9.out.2 ((g * 4096 + (x + j) - 4096 : Nat) : Int) 1 (by omega) (by omega) (by omega) (by omega)
          rw [rd1 (by omega), hat9, show ((g * 4096 + (x + j) - 4096 : Nat) : Int) = (g : Int) * 4096 + ((x : Int) + (j : Int)) - 4096 from by omega] at hR
          have HRd := Lib.hid hR
          clear hR hat9
          go_wp2_with fail
          refine HRd.out.mono ?_; rintro e wq ⟨rfl, kk, rfl⟩
          have H10 := Lib.hid (H9.out.1.trans (show Step (fun _ => False) own8 wr own8 (wr.drewN kk) from ⟨(Upd.refl _ _).drewN _, fun _ _ => rfl⟩))
          clear HRd H9 hlo'
          go_wp2
          exact ⟨⟨j + 1, by omega, by go_num, H10.out⟩, by simp [intOf]; omega⟩
      · obtain rfl : j = k := by omega
        have hM9 := H8.out.2.1.step HR.out (fun h => h)
        have hSp9 := H8.out.2.2.1.step HR.out (fun h => h) (fun h => h)
        have H9 := Lib.hid (And.intro (H8.out.1.trans (HR.out.mono (fun _ h => h.elim))) (And.intro hM9 hSp9))
        clear hM9 hSp9 HR H8
        have hKp := mW_kept f g x v j
        have hR := sp_Read_ok (t0 := 1) (fr := frM f g) (pm := fun _ => 6) (2147483648 + x) j HK.out (by omega) H9.out.2.1 H9.out.2.2 (fun page h1 h2 => hKp.map HFG2.out page (by omega) (by omega))
        rw [mW_num HFG2.out hxk, show ((2147483648 + x : Nat) : Int) = 2147483648 + (x : Int) from by omega] at hR
        have HRd := Lib.hid hR
        have HKp := Lib.hid hKp
        clear hR hKp
        go_wp2_with fail
        refine HRd.out.mono ?_; rintro e w10 ⟨rfl, hS10⟩
        have H10 := Lib.hid (And.intro (H9.out.1.trans (hS10.mono (fun _ h => h.elim))) (And.intro (H9.out.2.1.step hS10 (fun h => h)) (H9.out.2.2.step hS10 (fun h => h) (fun h => h))))
        clear hS10 H9 HRd
        have hR := sp_Read_no (t0 := 1) (fr := frM f g) (pm := fun _ => 6) (2147491840 - j + 1) j 524290 HK.out (by omega) H10.out.2.1 H10.out.2.2 (fun page h1 h2 => HKp.out.map HFG2.out page (by omega) (by omega)) (by omega) (HKp.out.no HFG2.out).1.1 (HKp.out.no HFG2.out).1.2
        rw [show ((2147491840 - j + 1 : Nat) : Int) = 2147491840 - (j : Int) + 1 from by omega] at hR
        have HRd := Lib.hid hR
        clear hR
        go_wp2_with fail
        refine HRd.out.mono ?_; rintro e w11 ⟨rfl, hS11⟩
        have H11 := Lib.hid (And.intro (H10.out.1.trans (hS11.mono (fun _ h => h.elim))) (And.intro (H10.out.2.1.step hS11 (fun h => h)) (H10.out.2.2.step hS11 (fun h => h) (fun h => h))))
        clear hS11 H10 HRd
        have HN := Lib.hid (sp_Has_no (t0 := 1) (fr := frM f g) (pm := fun _ => 6) 2147483647 1 524287 (by omega) (by omega) H11.out.2.1 H11.out.2.2 (fun page h1 h2 => by omega) (by omega) (HKp.out.no HFG2.out).2.1 (HKp.out.no HFG2.out).2.2)
        have HV := HWF.out.2.2
        obtain ⟨hv0, hv1⟩ := HV
        rcases HK.out with rfl | rfl | rfl | rfl
        all_goals
          go_wp2_with fail
          refine HN.out.mono ?_; rintro e w12 ⟨rfl, hS12⟩
          have H12 := Lib.hid (H11.out.1.trans (hS12.mono (fun _ h => h.elim)))
          clear hS12 HN H11
          go_wp2_with fail
          refine (awake10 w12).mono ?_; rintro e w13 ⟨rfl, hU13⟩
          have H13 := Lib.hid ((H12.out.upd.mono (S' := fun _ => False) (fun i hi h => h rfl)).trans hU13)
          clear hU13 H12
          go_wp2
          go_ret
          exact ⟨rfl, H13.out⟩
end Go.Proofs.Ytpodeclkgcgpgaa
