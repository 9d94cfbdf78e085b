import Derived.Test.YtpodeclkgcgpgaaSh
/- StageFull's walk. -/
namespace Go.Proofs.Ytpodeclkgcgpgaa
set_option linter.unusedVariables false
set_option linter.unusedSimpArgs false
open Go.RowKit
set_option maxRecDepth 100000

theorem upd_end {own : Nat → Nat} {w w' : World} (h : Step (fun x => x ≠ 0) (fun _ => 0) w own w') : Upd (fun _ => False) w w' := h.upd.mono (fun i hi h => h rfl)
set_option maxHeartbeats 4000000 in
theorem full_calls (left page : Int) (w : World) (hle : wfI left) (hpg : wfU page) :
    Calls Try.prog 10 #[.int .i64 left, .int .u64 page] w fun e w' => e = .returned (.bool true) ∧ Upd (fun _ => False) w w' := by
  obtain ⟨hl0, hl1⟩ := hle
  have HPl := Lib.hid (fun w => place_calls left 4 w hl0 hl1 (by omega) (by omega))
  obtain ⟨n, hn⟩ : ∃ n : Nat, left % 4 = (n : Int) := ⟨(left % 4).toNat, by omega⟩
  have hn4 : n < 4 := by omega
  rw [hn] at HPl
  clear hn hl0 hl1
  obtain ⟨x, hx, hxl⟩ : ∃ x : Nat, page.tmod 134217728 = (x : Int) ∧ x < 134217728 := by
    have h0 := hpg.1
    refine ⟨(page.tmod 134217728).toNat, ?_, ?_⟩ <;> rw [Int.tmod_eq_emod_of_nonneg h0] <;> omega
  have HX := Lib.hid hxl
  clear hpg hxl
  go_enter Try.func10, Try.ntmps10
  go_wp2_with fail
  refine (law10_spaces w).mono ?_
  rintro e w1 ⟨sa, sb, pp, p1, p2, own1, rfl, hS1, hG1, _⟩
  have hst : Step (fun _ => False) own1 w1 (ext own1 w1 0) (w1.alloc (.cells #[.pointer (some ⟨p1, 0, none⟩), .pointer (some ⟨p2, 0, none⟩)] 27)) := ⟨(Upd.refl _ _).alloc _, fun b hb => ext_old _ _ _ hb⟩
  have H1 := Lib.hid (And.intro (hS1.trans (hst.mono (fun _ h => h.elim))) (hG1.step hst (by simp)))
  clear hS1 hG1 hst
  go_wp2_with fail
  refine (HPl.out _).mono ?_; rintro e wz ⟨rfl, rfl⟩
  clear HPl
  have HTk := Lib.hid (gs_Take H1.out.2 1 3 _ takeF)
  go_wp2_with fail
  generalize w1.heap.size = tb at *
  refine HTk.out.mono ?_; rintro e w2 ⟨rfl, hS2, hG2⟩
  have H2 := Lib.hid (And.intro (H1.out.1.trans (hS2.mono (fun x h => by omega))) (show GS (ext own1 w1 0) w2 sa p1 pp 1 16 1 1 (sF 0) [1] from hG2))
  clear hS2 hG2 HTk H1
  go_wp2
  go_loopw [37] (fun i wr => Hid (∃ (j : Nat) (own' : Nat → Nat), j + n ≤ 12 ∧ Step (fun x => x ≠ 0) (fun _ => 0) w own' wr ∧ GS own' wr sa p1 pp 1 16 1 1 (sF j) [1])) (fun _ wr => 12 - jOf sa p1 pp wr)
  case atStart => exact ⟨0, _, by omega, H2.out⟩
  case round =>
    have HR := hrel
    clear hrel
    obtain ⟨j, own', hjn, hS, hG⟩ := HR.out
    have hmu := jOf_eq (by omega) hG
    have HC := pool_Count hG.1.1 0
    rw [show countP (sF j).ow 0 = 12 - j from owF_count j (by omega)] at HC
    have HC := Lib.hid HC
    have HMU := Lib.hid hmu
    have H3 := Lib.hid (And.intro hS hG)
    clear hS hG HR H2 hmu
    by_cases hlt : n < 12 - j
    · have HTk := Lib.hid (gs_Take H3.out.2 2 _ _ (owF_take j (by omega)))
      have hd : decide (n < 12 - j) = true := by simpa using hlt
      obtain ⟨c, hc⟩ : ∃ c, 12 - j = c := ⟨_, rfl⟩
      rw [hc] at HC hd hlt
      have HCC := Lib.hid hc
      clear hc
      go_wp2_with fail
      refine HC.out.mono ?_; rintro e wz ⟨rfl, rfl⟩
      go_wp2_with fail
      refine HTk.out.mono ?_; rintro e w4 ⟨rfl, hS4, hG4⟩
      have hmu4 := jOf_eq (j := j + 1) (by have := HCC.out; omega) hG4
      have H4 := Lib.hid (And.intro hmu4 (And.intro (H3.out.1.trans (hS4.mono (fun x h => by omega))) hG4))
      clear hS4 hG4 hmu4 HTk HC
      go_wp2
      exact ⟨⟨j + 1, own', by have := HCC.out; omega, H4.out.2⟩, by rw [H4.out.1, HMU.out]; have := HCC.out; omega⟩
    · have hjn2 : j = 12 - n := by omega
      subst hjn2
      have hd : decide (n < 12 - (12 - n)) = false := by simp; omega
      have e12 : 12 - (12 - n) = n := by omega
      rw [e12] at HC hd
      clear HMU e12 hlt hjn
      go_wp2_with fail
      refine HC.out.mono ?_; rintro e wz ⟨rfl, rfl⟩
      go_wp2_with fail
      refine HC.out.mono ?_; rintro e wz ⟨rfl, rfl⟩
      clear hd
      have hcnt : countP (sF (12 - n)).ow 0 = n := (owF_count (12 - n) (by omega)).trans (by omega)
      have HCN := Lib.hid hcnt
      have HDN := Lib.hid (sF_dn (12 - n) x HX.out)
      have HCO := Lib.hid HC.out
      clear HC hcnt
      rcases (show (n = 0 ∨ n = 1) ∨ (n = 2 ∨ n = 3) by omega) with h | h
      · rcases h with rfl | rfl
        all_goals
          have HMp := Lib.hid (sp_Map_full (t0 := 1) (page := x) (fr := 3) (p := 2) H3.out.2 HX.out (by decide) (by unfold permOk; omega) HDN.out.1 HDN.out.2.2 (by rw [HCN.out, HDN.out.2.1]; decide))
          simp only [Int.natCast_zero, Int.natCast_one, Int.cast_ofNat_Int]
          clear HCO
          go_wp2_with fail
          refine HMp.out.mono ?_; rintro e w5 ⟨rfl, hS5⟩
          have H5 := Lib.hid (And.intro (H3.out.1.trans (hS5.mono (fun _ h => h.elim))) (H3.out.2.step hS5 (by simp)))
          have hC := pool_Count H5.out.2.1.1 0
          rw [HCN.out] at hC
          have HC := Lib.hid hC
          clear hS5 H3 HMp hC
          go_wp2_with fail
          refine HC.out.mono ?_; rintro e wz ⟨rfl, rfl⟩
          have HP := Lib.hid (pages_none (t0 := 1) H5.out.2.1.2 H5.out.2.2 (by decide) (fun i _ => sF_z _ _ _))
          simp only [Int.natCast_zero, Int.natCast_one]
          clear HC
          go_wp2_with fail
          refine HP.out.mono ?_; rintro e w6 ⟨rfl, hS6⟩
          have H6 := Lib.hid (And.intro (H5.out.1.trans (hS6.mono (fun _ h => h.elim))) (H5.out.2.step hS6 (by simp)))
          clear hS6 HP H5
          have HT := Lib.hid (sp_Tables H6.out.2.2 (by decide))
          go_wp2_with fail
          refine HT.out.mono ?_; rintro e w7 ⟨v7, rfl, hR7, hU7⟩
          obtain ⟨A7, cap7, rfl, _⟩ := hR7.form
          have H7 := Lib.hid ((upd_end H6.out.1).trans hU7)
          clear hR7 hU7 HT H6
          go_wp2_with fail
          refine (awake10 w7).mono ?_; rintro e w8 ⟨rfl, hU8⟩
          have H8 := Lib.hid (H7.out.trans hU8)
          clear hU8 H7
          go_wp2
          go_ret
          exact ⟨rfl, H8.out⟩
      · have HL2 := Lib.hid (sF_l2 (12 - n) x HX.out (by omega))
        have HF1 := Lib.hid (sF_f1 (12 - n) (by omega))
        rcases h with rfl | rfl
        all_goals
          have HMp := Lib.hid (sp_Map (t0 := 1) (page := x) (fr := 3) (p := 2) H3.out.2 HX.out (by decide) (by decide) (by unfold permOk; omega) (sF_bl _ x HX.out (by omega)) HDN.out.2.2 (by rw [HCN.out, HDN.out.2.1]; decide))
          simp only [Int.natCast_zero, Int.natCast_one, Int.cast_ofNat_Int]
          clear HCO
          go_wp2_with fail
          refine HMp.out.mono ?_; rintro e w5 ⟨rfl, own5, hS5, hG5⟩
          rw [show ((1 : Nat) : Int) = 1 from rfl, HL2.out.2.2] at hG5
          have H5 := Lib.hid (And.intro (H3.out.1.trans (hS5.mono (fun x h => by omega))) hG5)
          have hC := pool_Count H5.out.2.1.1 0
          rw [show ∀ (s : PSt) ts t0 page fr p, (mapS s ts t0 page fr p).ow = (bldP s ts t0 page).2.1.ow from fun _ _ _ _ _ _ => rfl, HL2.out.2.1, HF1.out.2.2] at hC
          have HC := Lib.hid hC
          clear hS5 hG5 H3 HMp hC
          go_wp2_with fail
          refine HC.out.mono ?_; rintro e wz ⟨rfl, rfl⟩
          clear HC
          have HT := Lib.hid (sp_Tables H5.out.2.2 (by simp))
          go_wp2_with fail
          refine HT.out.mono ?_; rintro e w7 ⟨v7, rfl, hR7, hU7⟩
          obtain ⟨A7, cap7, rfl, _⟩ := hR7.form
          have H7 := Lib.hid ((upd_end H5.out.1).trans hU7)
          clear hR7 hU7 HT H5
          go_wp2_with fail
          refine (awake10 w7).mono ?_; rintro e w8 ⟨rfl, hU8⟩
          have H8 := Lib.hid (H7.out.trans hU8)
          clear hU8 H7
          go_wp2
          go_ret
          exact ⟨rfl, H8.out⟩
end Go.Proofs.Ytpodeclkgcgpgaa
