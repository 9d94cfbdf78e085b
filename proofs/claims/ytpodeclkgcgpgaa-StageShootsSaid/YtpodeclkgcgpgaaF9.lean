import Derived.Test.YtpodeclkgcgpgaaF8
/- FrameRound's walk -/
namespace Go.Proofs.Ytpodeclkgcgpgaa
set_option linter.unusedVariables false
open Go.RowKit
set_option maxRecDepth 100000

/-- a law's own variable is written -/
theorem St.set_loc {w wr : World} {pp rp n r h : Nat} {own' : Nat → Nat} {s : PSt} (hs : St w pp rp n r h own' wr s) {b : Nat} (hb : own' b = 0) (hw : w.heap.size ≤ b) (i : Nat) (v : Value) : St w pp rp n r h own' (wr.setCell ⟨b, i, none⟩ v) s := by
  have hst : Step (· = 0) own' wr own' (wr.setCell ⟨b, i, none⟩ v) := ⟨(Upd.refl _ _).setCell (.inl hb) _, fun _ _ => rfl⟩
  exact ⟨⟨hs.1.upd.setCell (.inr hw) _, hs.1.old⟩, hs.2.1.step hst (by omega), hs.2.2.step hst (by omega)⟩
theorem setD_same {D : Nat → Bool} {k : Nat} (h : D k = true) : setD D k = D := by
  funext j; unfold setD; split
  · rename_i e; subst e; exact h.symm
  · rfl
/-- a law's number in a range -/
theorem place_nat (v : Int) (n : Nat) (w : World) (hv : wfI v) (hn : 0 < n) (hn1 : n ≤ 1000000) : ∃ k : Nat, k < n ∧ v % (n : Int) = (k : Int) ∧
    Calls Try.prog 17 #[.int .i64 v, .int .i64 (n : Int)] w fun e w' => e = .returned (.int .i64 (k : Int)) ∧ w = w' := by
  have hp0 := Int.emod_nonneg v (show (n : Int) ≠ 0 from by omega)
  have hp1 := Int.emod_lt_of_pos v (show (0 : Int) < n from by omega)
  obtain ⟨k, hk⟩ := Int.eq_ofNat_of_zero_le hp0
  refine ⟨k, by omega, hk, ?_⟩
  rw [← hk]
  exact place_calls v n w hv.1 hv.2 (by omega) (by omega)

set_option maxHeartbeats 2000000 in
theorem round_calls (harts mark first second : Int) (hh : wfI harts) (hmk : wfU mark) (hf : wfI first) (hs : wfI second) (A : Option Addr) (cap : Nat) (os : List Int) (w : World)
    (hrd : Reads w w.heap.size 1 A os.length (os.map (.int .i64))) (hsz : os.length * 8 ≤ 140737488351232) (ho : ∀ z ∈ os, wfI z) :
    Calls Try.prog 5 #[.int .i64 harts, .slice A os.length cap, .int .u64 mark, .int .i64 first, .int .i64 second] w fun e w' => e = .returned (.bool true) ∧ Upd (fun _ => False) w w' := by
  have HX := Lib.hid (And.intro hrd ho)
  clear hrd ho
  go_enter Try.func5, Try.ntmps5
  go_wp2_with fail
  refine (law_Memory 2 (by omega) (by omega) (fun _ => 0) 1 2 (by omega) w).mono ?_
  rintro e w1 ⟨p1, p2, own1, rfl, hS1, hM1, _⟩
  have hA : Step (fun _ => False) own1 w1 (ext own1 w1 0) (w1.alloc (.cells #[.pointer (some ⟨p1, 0, none⟩), .pointer (some ⟨p2, 0, none⟩)] 27)) := ⟨(Upd.refl _ _).alloc _, fun b hb => ext_old _ _ _ hb⟩
  have hB := Blk.new w1 27 #[.pointer (some ⟨p1, 0, none⟩), .pointer (some ⟨p2, 0, none⟩)]
  have H1 := Lib.hid (And.intro (hS1.trans hA) (And.intro (hM1.step hA (fun h => h)) (And.intro hB (ext_new own1 w1 0 (Nat.le_refl _)))))
  clear hA hB hS1 hM1
  obtain ⟨h0, hh0, _, HP0⟩ := place_nat harts 8 (w1.alloc (.cells #[.pointer (some ⟨p1, 0, none⟩), .pointer (some ⟨p2, 0, none⟩)] 27)) hh (by omega) (by omega)
  have HP := Lib.hid HP0
  clear HP0
  go_wp2_with fail
  refine HP.out.mono ?_; rintro e wz ⟨rfl, rfl⟩
  clear HP
  generalize w1.heap.size = tb at *
  obtain ⟨h, hhd, hhd1⟩ : ∃ h : Nat, 1 + (h0 : Int) = (h : Int) ∧ h = 1 + h0 := ⟨1 + h0, by omega, rfl⟩
  have HH8 := Lib.hid (show 1 ≤ h ∧ h ≤ 8 by omega)
  have HHD := Lib.hid hhd
  have hh8 := HH8.out
  have hN := pool_New H1.out.2.1 1 h (by omega) (by omega) (by omega) 3
  have HN := Lib.hid hN
  clear hN hhd hhd1 hh8
  have hbl := H1.out.2.2.1.cell 0
  simp only [List.getElem?_toArray, List.getElem?_cons_zero] at hbl
  generalize (w1.alloc (.cells #[.pointer (some ⟨p1, 0, none⟩), .pointer (some ⟨p2, 0, none⟩)] 27)) = w2 at *
  generalize ext own1 w1 0 = own2 at *
  go_wp2_with fail
  rw [HHD.out]
  clear HHD hh0
  have hh8 := HH8.out
  refine HN.out.mono ?_; rintro e w3 ⟨pp, own3, rfl, hS2, hP2⟩
  have hM2 := H1.out.2.1.step hS2 (fun h => h)
  have H2 := Lib.hid (And.intro (show St w pp p1 2 1 h own3 w3 ⟨initO 2 1, List.replicate 2 0, fun _ => 0, 0⟩ from ⟨(H1.out.1.trans hS2).mono (fun _ h => h.elim), hP2, hM2⟩) (hS2.blk H1.out.2.2.1 H1.out.2.2.2 (fun h => h)))
  clear hS2 hP2 hM2 H1 HN hbl
  obtain ⟨a, ha, _, HPa0⟩ := place_nat first 8 w3 hf (by omega) (by omega)
  obtain ⟨b, hb, _, HPb0⟩ := place_nat second 8 w3 hs (by omega) (by omega)
  have HPa := Lib.hid HPa0
  have HPb := Lib.hid HPb0
  clear HPa0 HPb0
  go_wp2_with fail
  refine HPa.out.mono ?_; rintro e wz ⟨rfl, rfl⟩
  go_wp2_with fail
  refine HPb.out.mono ?_; rintro e wz ⟨rfl, rfl⟩
  clear HPa HPb
  have hT := st_Take H2.out.1 (1 + (a : Int))
  have htk : takeP (initO 2 1) (1 + (a : Int)) = (1, 0, [-1, 1 + (a : Int)]) := by
    unfold takeP; rw [if_pos (okO_iff.2 (Or.inr (by omega)))]; rfl
  simp only [] at hT
  rw [htk] at hT
  have HT := Lib.hid hT
  clear hT htk
  go_wp2_with fail
  refine HT.out.mono ?_; rintro e w4 ⟨rfl, own4, hS, hSt⟩
  have H3 := Lib.hid (And.intro hSt (hS.loc H2.out.2))
  clear hS hSt HT H2
  have hbl := H3.out.2.1.cell 0
  simp only [List.getElem?_toArray, List.getElem?_cons_zero] at hbl
  have hT := st_Write H3.out.1 4104 8 mark (by omega) (by omega) (by omega) (by omega) hmk.1 hmk.2
  rw [show (okS 8 && hasR 0 2 4104 8) = true from by decide] at hT
  simp only [] at hT
  rw [show wrR 0 2 (fun _ => 0) 4104 8 mark = put (fun _ => 0) 4104 8 mark from wr_in (n := 2) (a := 4104) (by omega)] at hT
  have HT := Lib.hid hT
  clear hT
  go_wp2_with fail
  refine HT.out.mono ?_; rintro e w5 ⟨rfl, own5, hS, hSt⟩
  have H4 := Lib.hid (And.intro hSt (hS.loc H3.out.2))
  clear hS hSt HT H3 hbl
  have hT := st_Release (by omega) H4.out.1 1
  rw [show relOk ((1 : Nat) : Int) (PSt.mk [-1, 1 + (a : Int)] (List.replicate 2 0) (put (fun _ => 0) 4104 8 mark) 0).ow 1 = true from by simp [relOk, thereP]; omega] at hT
  rw [show relP ((1 : Nat) : Int) h ⟨[-1, 1 + (a : Int)], List.replicate 2 0, put (fun _ => 0) 4104 8 mark, 0⟩ 1 = ⟨[-1, -2], [0, allB h], put (fun _ => 0) 4104 8 mark, 0⟩ from by
    unfold relP; rw [if_pos (by simp [relOk, thereP]; omega)]; rfl] at hT
  rw [if_pos rfl] at hT
  have HT := Lib.hid hT
  clear hT
  go_wp2_with fail
  refine HT.out.mono ?_; rintro e w6 ⟨rfl, own6, hS, hSt⟩
  have H5 := Lib.hid (And.intro hSt (hS.loc H4.out.2))
  clear hS hSt HT H4
  go_wp2
  have hB : Blk (w6.alloc (.cells #[.bool false, .bool false, .bool false, .bool false, .bool false, .bool false, .bool false, .bool false, .bool false] 47)) w6.heap.size 47 (doneC fun _ => false) := Blk.new w6 _ _
  have hst : Step C31 own6 w6 (ext own6 w6 0) (w6.alloc (.cells #[.bool false, .bool false, .bool false, .bool false, .bool false, .bool false, .bool false, .bool false, .bool false] 47)) := ⟨(Upd.refl _ _).alloc _, fun b hb => ext_old _ _ _ hb⟩
  have hn := H5.out.1.newc ((Upd.refl (fun _ => False) w6).alloc (.cells #[.bool false, .bool false, .bool false, .bool false, .bool false, .bool false, .bool false, .bool false, .bool false] 47))
  have H6 := Lib.hid (And.intro hn (And.intro (hst.loc H5.out.2) (And.intro hB (show ext own6 w6 0 w6.heap.size = 0 from ext_new _ _ _ (Nat.le_refl _)))))
  have H5' := H5
  clear hB hst hn H5
  generalize (w6.alloc (.cells #[.bool false, .bool false, .bool false, .bool false, .bool false, .bool false, .bool false, .bool false, .bool false] 47)) = w7 at *
  generalize ext own6 w6 0 = own7 at *
  have hdbw : w.heap.size ≤ w6.heap.size := H5'.out.1.upd.size
  clear H5'
  generalize w6.heap.size = db at *
  have hmm : num (put (fun _ => 0) 4104 8 mark) 4104 8 = mark := by rw [num_put]; have := hmk.1; have := hmk.2; omega
  go_loopw [20, 21] (fun lf i wr => ∃ (k : Nat) (D : Nat → Bool), k ≤ os.length + h + 1 ∧ i = .int .i64 (k : Int) ∧ lf = .int .i64 (cntD D (h + 1) : Int) ∧
    Hid ((∀ j, os.length + j < k → j ≤ h → D j = true) ∧ ∃ own' s, St w pp p1 2 1 h own' wr s ∧ Rd h D mark s ∧ (Blk wr tb 27 #[.pointer (some ⟨p1, 0, none⟩), .pointer (some ⟨p2, 0, none⟩)] ∧ own' tb = 0) ∧ (Blk wr db 47 (doneC D) ∧ own' db = 0))) (fun _ i _ => os.length + h + 1 - (intOf i).toNat)
  case atStart =>
    refine ⟨0, fun _ => false, by omega, rfl, by rw [cntD_none]; go_num, fun j hj _ => by omega, own7, _, H6.out.1, ?_, H6.out.2.1, H6.out.2.2⟩
    obtain ⟨B, hB, hBt⟩ := Bits.all hh8.2
    rw [hB]
    exact Rd.on B _ hBt hmm (by rw [cntD_none]; omega)
  case round =>
    obtain ⟨k, D, hk, rfl, rfl, HR⟩ := hrel
    have hL := cntD_le D (h + 1)
    by_cases hgo : k < os.length + h + 1 ∧ cntD D (h + 1) ≠ 0
    · obtain ⟨hk1, hL0⟩ := hgo
      obtain ⟨hD, own8, s, hSt, hRd, htb, hdb⟩ := HR.out
      obtain ⟨B, m, hBt, hnm, _⟩ : ∃ B m, Bits h D B ∧ num m 4104 8 = mark ∧ s = ⟨[-1, -2], [0, (B : Int)], m, 0⟩ := by
        cases hRd with
        | on B m hB hm _ => exact ⟨B, m, hB, hm, rfl⟩
        | off m hm h => exact absurd h hL0
      subst s
      have H7 := Lib.hid (And.intro hSt (And.intro htb hdb))
      have HB := Lib.hid (And.intro hD (And.intro hBt hnm))
      have hlf : (0 : Int) < (cntD D (h + 1) : Int) := by omega
      have hki : (k : Int) < (os.length : Int) + (h : Int) + 1 := by omega
      -- the number that acknowledges
      obtain ⟨kv, hkv, hkc⟩ : ∃ kv : Int, wfI kv ∧ ((os.length ≤ k → kv % ((h + 1 : Nat) : Int) = (k : Int) - os.length) ∧ (os.length ≤ k → kv = (k : Int) - os.length) ∧ (k < os.length → os[k]? = some kv)) := by
        by_cases hlt : k < os.length
        · exact ⟨os[k], HX.out.2 _ (List.getElem_mem hlt), fun h => by omega, fun h => by omega, fun _ => List.getElem?_eq_getElem hlt⟩
        · refine ⟨(k : Int) - os.length, by unfold wfI; omega, fun _ => Int.emod_eq_of_lt (by omega) (by omega), fun _ => rfl, fun h => by omega⟩
      obtain ⟨kk, hkk, hke, HPk0⟩ := place_nat kv (h + 1) wr hkv (by omega) (by omega)
      rw [show ((h + 1 : Nat) : Int) = (h : Int) + 1 from by omega] at HPk0
      have HPk := Lib.hid HPk0
      have HK := Lib.hid (And.intro hke hkc.1)
      clear HPk0 hSt hRd htb hdb hBt hnm hD HR
      have hT := st_Take H7.out.1 (1 + (b : Int))
      have htk : takeP [-1, -2] (1 + (b : Int)) = (0, 10, [-1, -2]) := by
        unfold takeP; rw [if_pos (okO_iff.2 (Or.inr (by omega)))]; rfl
      simp only [] at hT
      rw [htk] at hT
      have HT := Lib.hid hT
      clear hT htk
      by_cases hlt : k < os.length
      · obtain ⟨ob, oo, rfl, hob, hoc⟩ := HX.out.1.start (by omega) (by omega)
        have c0 := (H7.out.1.upd.cell hob (fun h => h)).trans (hoc k _ (by rw [List.getElem?_map, hkc.2.2 hlt]; rfl))
        have hki2 : (k : Int) < (os.length : Int) := by omega
        clear hoc hkc hke
        go_wp2_with fail
        refine HPk.out.mono ?_; rintro e wz ⟨rfl, rfl⟩
        clear HPk
        go_wp2_with fail
        refine HT.out.mono ?_; rintro e w8 ⟨rfl, own9, hS, hSt⟩
        have H8 := Lib.hid (And.intro hSt (And.intro (hS.loc H7.out.2.1) (hS.loc H7.out.2.2)))
        clear hS hSt HT H7
        have hbl := H8.out.2.1.1.cell 0
        simp only [List.getElem?_toArray, List.getElem?_cons_zero] at hbl
        have hT := st_Read H8.out.1 4104 8 (by omega) (by omega) (by omega) (by omega)
        rw [show rdR 0 2 m 4104 8 = (num m 4104 8, true) from rd_in (n := 2) (a := 4104) (by omega), HB.out.2.2] at hT
        have HT := Lib.hid hT
        clear hT
        go_wp2_with fail
        refine HT.out.mono ?_; rintro e w9 ⟨rfl, own10, hS, hSt⟩
        have H9 := Lib.hid (And.intro hSt (And.intro (hS.loc H8.out.2.1) (hS.loc H8.out.2.2)))
        clear hS hSt HT H8 hbl
        have hO := st_Owner H9.out.1 1
        rw [show ownerP [-1, -2] 1 = -2 from by decide] at hO
        have HO := Lib.hid hO
        clear hO
        go_wp2_with fail
        refine HO.out.mono ?_; rintro e wz ⟨rfl, rfl⟩
        clear HO
        have hA := Rd.ack HB.out.2.1 HB.out.2.2 hh8.2 (k := kk) (by omega)
        have hcs := cntD_set D (k := kk) (n := h + 1) hkk
        have hnew : ∀ j, os.length + j < k + 1 → j ≤ h → setD D kk j = true := by
          intro j hj hjh
          unfold setD
          by_cases e : j = kk
          · rw [if_pos e]
          · rw [if_neg e]
            refine HB.out.1 j ?_ hjh
            rcases Nat.lt_or_ge k os.length with h | h
            · omega
            · have h1 := HK.out.2 h
              rw [HK.out.1] at h1
              omega
        have HN := Lib.hid hnew
        clear hnew
        obtain ⟨L0, hL0e⟩ : ∃ x, cntD D (h + 1) = x := ⟨_, rfl⟩
        obtain ⟨L1, hL1e⟩ : ∃ x, cntD (setD D kk) (h + 1) = x := ⟨_, rfl⟩
        rw [hL0e, hL1e] at hcs
        rw [hL1e] at hA
        rw [hL0e] at hL hL0 hlf
        rw [hL0e]
        have HE := Lib.hid (And.intro hL0e hL1e)
        clear hL0e hL1e
        by_cases hkh : kk = h
        all_goals
          first
          | (obtain rfl : kk = h := hkh
             rw [if_pos rfl] at hA
             have hT := st_AckDevices H9.out.1
             rw [show (9223372036854775808 : Int) = ((2 ^ 63 : Nat) : Int) from by decide] at hT)
          | (rw [if_neg hkh] at hA
             have hT := st_Ack hh8.2 H9.out.1 (kk : Int) (by omega) (by omega)
             rw [show ackP h 2 (PSt.z ⟨[-1, -2], [0, (B : Int)], m, 0⟩) (kk : Int) = ackN (notB ((2 ^ kk : Nat) : Int)) ⟨[-1, -2], [0, (B : Int)], m, 0⟩ 2 from by rw [ackP_in (by omega)]; simp] at hT
             have hke : ((kk : Int) == (h : Int)) = false := by simp; omega)
          simp only [PSt.z] at hT hA
          obtain ⟨hA1, hA2⟩ := hA
          rw [hA2] at hT
          have HT := Lib.hid hT
          have HA := Lib.hid hA1
          clear hT hA1 hA2
          have hd0 := H9.out.2.2.1.cell kk
          rw [doneC_at _ (by omega)] at hd0
          go_wp2_with fail
          refine HT.out.mono ?_; rintro e w10 ⟨rfl, own11, hS, hSt⟩
          have H10 := Lib.hid (And.intro hSt (And.intro (hS.loc H9.out.2.1) (hS.loc H9.out.2.2)))
          clear hS hSt HT H9 hd0
          have hd0 := H10.out.2.2.1.cell kk
          rw [doneC_at _ (by omega)] at hd0
          have hz0 := H10.out.2.2.1.frozen kk
          rcases hDk : D kk with _ | _
          · rw [hDk] at hcs hd0
            simp only [Bool.false_eq_true, if_false] at hcs
            by_cases hz : L1 = 0
            · rw [if_pos hz]
              have hl1 : (L0 : Int) = 1 := by omega
              rw [hl1]
              go_wp2
              have hst := H10.out.1.set_loc H10.out.2.2.2 hdbw kk (.bool true)
              have hbt := H10.out.2.1.1.far (p := ⟨db, kk, none⟩) (H10.out.2.1.1.ne_ H10.out.2.2.1 (by decide)) (.bool true)
              have hbd := H10.out.2.2.1.set_ kk (.bool true)
              rw [doneC_set D (by omega)] at hbd
              exact ⟨⟨k + 1, setD D kk, by omega, by go_num, (by rw [HE.out.2]; first | (rw [hz]; rfl) | (congr 1; omega)), HN.out, own11, _, hst, HA.out, ⟨hbt, H10.out.2.1.2⟩, hbd, H10.out.2.2.2⟩, by simp [intOf]; omega⟩
            · rw [if_neg hz]
              have hl1 : (((L0 : Int) - 1) == 0) = false := by simp; omega
              go_wp2
              have hst := H10.out.1.set_loc H10.out.2.2.2 hdbw kk (.bool true)
              have hbt := H10.out.2.1.1.far (p := ⟨db, kk, none⟩) (H10.out.2.1.1.ne_ H10.out.2.2.1 (by decide)) (.bool true)
              have hbd := H10.out.2.2.1.set_ kk (.bool true)
              rw [doneC_set D (by omega)] at hbd
              exact ⟨⟨k + 1, setD D kk, by omega, by go_num, (by rw [HE.out.2]; first | (rw [hz]; rfl) | (congr 1; omega)), HN.out, own11, _, hst, HA.out, ⟨hbt, H10.out.2.1.2⟩, hbd, H10.out.2.2.2⟩, by simp [intOf]; omega⟩
          · rw [hDk] at hcs hd0
            simp only [if_true, Nat.add_zero] at hcs
            rw [hcs, if_neg hL0]
            have hl1 : ((L0 : Int) == 0) = false := by simp; omega
            go_wp2
            have hA2 := HA.out
            have hN2 := HN.out
            rw [setD_same hDk] at hA2 hN2
            exact ⟨⟨k + 1, D, by omega, by go_num, (by rw [HE.out.1]), hN2, own11, _, H10.out.1, hA2, H10.out.2⟩, by simp [intOf]; omega⟩
      · have hki2 : ¬ (k : Int) < (os.length : Int) := by omega
        have hkv2 := hkc.2.1 (by omega)
        clear hkc hke
        subst hkv2
        go_wp2_with fail
        refine HPk.out.mono ?_; rintro e wz ⟨rfl, rfl⟩
        clear HPk
        go_wp2_with fail
        refine HT.out.mono ?_; rintro e w8 ⟨rfl, own9, hS, hSt⟩
        have H8 := Lib.hid (And.intro hSt (And.intro (hS.loc H7.out.2.1) (hS.loc H7.out.2.2)))
        clear hS hSt HT H7
        have hbl := H8.out.2.1.1.cell 0
        simp only [List.getElem?_toArray, List.getElem?_cons_zero] at hbl
        have hT := st_Read H8.out.1 4104 8 (by omega) (by omega) (by omega) (by omega)
        rw [show rdR 0 2 m 4104 8 = (num m 4104 8, true) from rd_in (n := 2) (a := 4104) (by omega), HB.out.2.2] at hT
        have HT := Lib.hid hT
        clear hT
        go_wp2_with fail
        refine HT.out.mono ?_; rintro e w9 ⟨rfl, own10, hS, hSt⟩
        have H9 := Lib.hid (And.intro hSt (And.intro (hS.loc H8.out.2.1) (hS.loc H8.out.2.2)))
        clear hS hSt HT H8 hbl
        have hO := st_Owner H9.out.1 1
        rw [show ownerP [-1, -2] 1 = -2 from by decide] at hO
        have HO := Lib.hid hO
        clear hO
        go_wp2_with fail
        refine HO.out.mono ?_; rintro e wz ⟨rfl, rfl⟩
        clear HO
        have hA := Rd.ack HB.out.2.1 HB.out.2.2 hh8.2 (k := kk) (by omega)
        have hcs := cntD_set D (k := kk) (n := h + 1) hkk
        have hnew : ∀ j, os.length + j < k + 1 → j ≤ h → setD D kk j = true := by
          intro j hj hjh
          unfold setD
          by_cases e : j = kk
          · rw [if_pos e]
          · rw [if_neg e]
            refine HB.out.1 j ?_ hjh
            rcases Nat.lt_or_ge k os.length with h | h
            · omega
            · have h1 := HK.out.2 h
              rw [HK.out.1] at h1
              omega
        have HN := Lib.hid hnew
        clear hnew
        obtain ⟨L0, hL0e⟩ : ∃ x, cntD D (h + 1) = x := ⟨_, rfl⟩
        obtain ⟨L1, hL1e⟩ : ∃ x, cntD (setD D kk) (h + 1) = x := ⟨_, rfl⟩
        rw [hL0e, hL1e] at hcs
        rw [hL1e] at hA
        rw [hL0e] at hL hL0 hlf
        rw [hL0e]
        have HE := Lib.hid (And.intro hL0e hL1e)
        clear hL0e hL1e
        by_cases hkh : kk = h
        all_goals
          first
          | (obtain rfl : kk = h := hkh
             rw [if_pos rfl] at hA
             have hT := st_AckDevices H9.out.1
             rw [show (9223372036854775808 : Int) = ((2 ^ 63 : Nat) : Int) from by decide] at hT)
          | (rw [if_neg hkh] at hA
             have hT := st_Ack hh8.2 H9.out.1 (kk : Int) (by omega) (by omega)
             rw [show ackP h 2 (PSt.z ⟨[-1, -2], [0, (B : Int)], m, 0⟩) (kk : Int) = ackN (notB ((2 ^ kk : Nat) : Int)) ⟨[-1, -2], [0, (B : Int)], m, 0⟩ 2 from by rw [ackP_in (by omega)]; simp] at hT
             have hke : ((kk : Int) == (h : Int)) = false := by simp; omega)
          simp only [PSt.z] at hT hA
          obtain ⟨hA1, hA2⟩ := hA
          rw [hA2] at hT
          have HT := Lib.hid hT
          have HA := Lib.hid hA1
          clear hT hA1 hA2
          have hd0 := H9.out.2.2.1.cell kk
          rw [doneC_at _ (by omega)] at hd0
          go_wp2_with fail
          refine HT.out.mono ?_; rintro e w10 ⟨rfl, own11, hS, hSt⟩
          have H10 := Lib.hid (And.intro hSt (And.intro (hS.loc H9.out.2.1) (hS.loc H9.out.2.2)))
          clear hS hSt HT H9 hd0
          have hd0 := H10.out.2.2.1.cell kk
          rw [doneC_at _ (by omega)] at hd0
          have hz0 := H10.out.2.2.1.frozen kk
          rcases hDk : D kk with _ | _
          · rw [hDk] at hcs hd0
            simp only [Bool.false_eq_true, if_false] at hcs
            by_cases hz : L1 = 0
            · rw [if_pos hz]
              have hl1 : (L0 : Int) = 1 := by omega
              rw [hl1]
              go_wp2
              have hst := H10.out.1.set_loc H10.out.2.2.2 hdbw kk (.bool true)
              have hbt := H10.out.2.1.1.far (p := ⟨db, kk, none⟩) (H10.out.2.1.1.ne_ H10.out.2.2.1 (by decide)) (.bool true)
              have hbd := H10.out.2.2.1.set_ kk (.bool true)
              rw [doneC_set D (by omega)] at hbd
              exact ⟨⟨k + 1, setD D kk, by omega, by go_num, (by rw [HE.out.2]; first | (rw [hz]; rfl) | (congr 1; omega)), HN.out, own11, _, hst, HA.out, ⟨hbt, H10.out.2.1.2⟩, hbd, H10.out.2.2.2⟩, by simp [intOf]; omega⟩
            · rw [if_neg hz]
              have hl1 : (((L0 : Int) - 1) == 0) = false := by simp; omega
              go_wp2
              have hst := H10.out.1.set_loc H10.out.2.2.2 hdbw kk (.bool true)
              have hbt := H10.out.2.1.1.far (p := ⟨db, kk, none⟩) (H10.out.2.1.1.ne_ H10.out.2.2.1 (by decide)) (.bool true)
              have hbd := H10.out.2.2.1.set_ kk (.bool true)
              rw [doneC_set D (by omega)] at hbd
              exact ⟨⟨k + 1, setD D kk, by omega, by go_num, (by rw [HE.out.2]; first | (rw [hz]; rfl) | (congr 1; omega)), HN.out, own11, _, hst, HA.out, ⟨hbt, H10.out.2.1.2⟩, hbd, H10.out.2.2.2⟩, by simp [intOf]; omega⟩
          · rw [hDk] at hcs hd0
            simp only [if_true, Nat.add_zero] at hcs
            rw [hcs, if_neg hL0]
            have hl1 : ((L0 : Int) == 0) = false := by simp; omega
            go_wp2
            have hA2 := HA.out
            have hN2 := HN.out
            rw [setD_same hDk] at hA2 hN2
            exact ⟨⟨k + 1, D, by omega, by go_num, (by rw [HE.out.1]), hN2, own11, _, H10.out.1, hA2, H10.out.2⟩, by simp [intOf]; omega⟩
    · have hz : cntD D (h + 1) = 0 := by
        by_cases h : k < os.length + h + 1
        · exact Decidable.byContradiction fun h2 => hgo ⟨h, h2⟩
        · exact cntD_zero.2 (fun j hj => HR.out.1 j (by omega) (by omega))
      obtain ⟨hD, own8, s, hSt, hRd, htb, hdb⟩ := HR.out
      obtain ⟨m, hnm, rfl⟩ : ∃ m, num m 4104 8 = 0 ∧ s = ⟨[-1, 0], [0, 0], m, 0⟩ := by
        cases hRd with
        | on B m hB hm h => exact absurd hz h
        | off m hm h => exact ⟨m, hm, rfl⟩
      have hbl := htb.1.cell 0
      simp only [List.getElem?_toArray, List.getElem?_cons_zero] at hbl
      have hT := st_Read hSt 4104 8 (by omega) (by omega) (by omega) (by omega)
      rw [show rdR 0 2 m 4104 8 = (num m 4104 8, true) from rd_in (n := 2) (a := 4104) (by omega), hnm] at hT
      have HT := Lib.hid hT
      have hcs : (k : Int) < (os.length : Int) + (h : Int) + 1 ∨ ¬ (k : Int) < (os.length : Int) + (h : Int) + 1 := by omega
      rw [hz]
      clear hT hSt hRd htb hdb hD HR hnm hgo H6
      rcases hcs with hcs | hcs
      all_goals
        go_wp2_with fail
        refine HT.out.mono ?_; rintro e w8 ⟨rfl, own9, hS, hSt⟩
        have hT := st_Take hSt (1 + (b : Int))
        have htk : takeP [-1, 0] (1 + (b : Int)) = (1, 0, [-1, 1 + (b : Int)]) := by
          unfold takeP; rw [if_pos (okO_iff.2 (Or.inr (by omega)))]; rfl
        simp only [] at hT
        rw [htk] at hT
        have HT2 := Lib.hid hT
        clear hT htk hS hSt
        go_wp2_with fail
        refine HT2.out.mono ?_; rintro e w9 ⟨rfl, own10, hS, hSt⟩
        have hO := st_Owner hSt 1
        rw [show ownerP [-1, 1 + (b : Int)] 1 = 1 + (b : Int) from by unfold ownerP; rw [if_pos (thereP_iff.2 (by simp))]; rfl] at hO
        have HO := Lib.hid hO
        have hU := Lib.hid hSt.upd
        clear hO hS hSt
        go_wp2_with fail
        refine HO.out.mono ?_; rintro e wz ⟨rfl, rfl⟩
        go_wp2_with fail
        refine (awake_calls _).mono ?_; rintro e w10 ⟨rfl, hU10⟩
        go_wp2
        go_ret
        exact ⟨rfl, hU.out.trans hU10⟩
end Go.Proofs.Ytpodeclkgcgpgaa
