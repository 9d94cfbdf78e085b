import Derived.Test.YtpodeclkgcgpgaaF9
import Derived.Test.YtpodeclkgcgpgaaF10
/- FrameMany's walk -/
namespace Go.Proofs.Ytpodeclkgcgpgaa
set_option linter.unusedVariables false
open Go.RowKit
set_option maxRecDepth 100000

/-- the law's state: pool, memory, the pair of memories at tb -/
def LS (w : World) (pp p1 p2 tb k h : Nat) (F : Nat → Int × Int) (M : Nat → Int) (wr : World) : Prop :=
  ∃ own' s, St w pp p1 k 0 h own' wr s ∧ Pm k F M s ∧ (Blk wr tb 27 #[.pointer (some ⟨p1, 0, none⟩), .pointer (some ⟨p2, 0, none⟩)] ∧ own' tb = 0)
theorem or_one {x : Int} (hx : wfU x) : wfU (bits .or .u64 x 1) ∧ bits .or .u64 x 1 ≠ 0 := by
  obtain ⟨a, rfl⟩ := Int.eq_ofNat_of_zero_le hx.1
  have ha : a < 2 ^ 64 := by have := hx.2; omega
  rw [show (1 : Int) = ((1 : Nat) : Int) from rfl, u64_or_nat a 1 (by omega) (by decide)]
  have h1 := Nat.or_lt_two_pow (n := 64) ha (show 1 < 2 ^ 64 by decide)
  have h2 : (a ||| 1).testBit 0 = true := by rw [Nat.testBit_or]; simp
  have h3 : (a ||| 1) ≠ 0 := fun e => by rw [e] at h2; simp at h2
  refine ⟨⟨by omega, by omega⟩, by omega⟩

set_option maxHeartbeats 4000000 in
theorem many_calls (n harts first mark : Int) (hn : wfI n) (hh : wfI harts) (hf : wfI first) (hmk : wfU mark) (w : World) :
    Calls Try.prog 6 #[.int .i64 n, .int .i64 harts, .int .i64 first, .int .u64 mark] w fun e w' => e = .returned (.bool true) ∧ Upd (fun _ => False) w w' := by
  obtain ⟨k0, hk0, _, HP0⟩ := place_nat n 8 w hn (by omega) (by omega)
  obtain ⟨h0, hh0, _, HP1⟩ := place_nat harts 8 w hh (by omega) (by omega)
  have HPa := Lib.hid HP0
  have HPb := Lib.hid HP1
  clear HP0 HP1
  go_enter Try.func6, Try.ntmps6
  go_wp2_with fail
  refine HPa.out.mono ?_; rintro e wz ⟨rfl, rfl⟩
  go_wp2_with fail
  refine HPb.out.mono ?_; rintro e wz ⟨rfl, rfl⟩
  clear HPa HPb
  have hke : ((2 + k0 : Nat) : Int) = 2 + (k0 : Int) := by omega
  have hhe : ((1 + h0 : Nat) : Int) = 1 + (h0 : Int) := by omega
  have hMem := law_Memory (2 + k0) (by omega) (by omega) (fun _ => 0) 1 2 (by omega) w
  rw [hke] at hMem
  go_wp2_with fail
  refine hMem.mono ?_
  clear hMem
  rintro e w1 ⟨p1, p2, own1, rfl, hS1, hM1, _⟩
  have hA : Step (fun _ => False) own1 w1 (ext own1 w1 0) (w1.alloc (.cells #[.pointer (some ⟨p1, 0, none⟩), .pointer (some ⟨p2, 0, none⟩)] 27)) := ⟨(Upd.refl _ _).alloc _, fun b hb => ext_old _ _ _ hb⟩
  have hB := Blk.new w1 27 #[.pointer (some ⟨p1, 0, none⟩), .pointer (some ⟨p2, 0, none⟩)]
  have H1 := Lib.hid (And.intro (hS1.trans hA) (And.intro (hM1.step hA (fun h => h)) (And.intro hB (ext_new own1 w1 0 (Nat.le_refl _)))))
  clear hA hB hS1 hM1
  have hN := pool_New H1.out.2.1 0 (1 + h0) (by omega) (by omega) (by omega) 3
  rw [hhe] at hN
  have HN := Lib.hid hN
  clear hN
  go_wp2_with fail
  refine HN.out.mono ?_; rintro e w3 ⟨pp, own3, rfl, hS2, hP2⟩
  have hM2 := H1.out.2.1.step hS2 (fun h => h)
  obtain ⟨⟨hmw0, hmw1⟩, hmz⟩ := or_one hmk
  obtain ⟨mk, hmke⟩ : ∃ mk, bits .or .u64 mark 1 = mk := ⟨_, rfl⟩
  rw [hmke] at hmw0 hmw1 hmz
  have H2 := Lib.hid (show LS w pp p1 p2 w1.heap.size (2 + k0) (1 + h0) (FA 0) (MA 0 mk) w3 from ⟨own3, ⟨initO (2 + k0) 0, List.replicate (2 + k0) 0, fun _ => 0, 0⟩, ⟨(H1.out.1.trans hS2).mono (fun _ h => h.elim), hP2, hM2⟩, many_start _ _, hS2.blk H1.out.2.2.1 H1.out.2.2.2 (fun h => h)⟩)
  clear hS2 hP2 hM2 H1 HN
  generalize w1.heap.size = tb at *
  go_wp2
  -- takes
  go_loopw [15] (fun i wr => ∃ (j : Nat), j ≤ 2 + k0 ∧ i = .int .i64 (j : Int) ∧ Hid (LS w pp p1 p2 tb (2 + k0) (1 + h0) (FA j) (MA j mk) wr)) (fun i _ => 2 + k0 - (intOf i).toNat)
  case atStart => exact ⟨0, by omega, rfl, H2.out⟩
  case round =>
    obtain ⟨j, hj, rfl, HR⟩ := hrel
    by_cases hlt : j < 2 + k0
    · have hlt' : (j : Int) < 2 + (k0 : Int) := by omega
      obtain ⟨own4, s, hSt, hPm, hbk⟩ := HR.out
      obtain ⟨ht1, ht2, ht3⟩ := many_take hPm hlt
      have hT := st_Take hSt (ownF j)
      rw [ht1, ht2] at hT
      have hrem : Int.tmod (j : Int) 8 = ((j % 8 : Nat) : Int) := by rw [Int.tmod_eq_emod]; simp
      unfold ownF at hT
      have HT := Lib.hid hT
      have H4 := Lib.hid (And.intro ht3 hbk)
      have HM := Lib.hid hmke
      clear hT hSt hPm hbk ht1 ht2 ht3 HR hmke
      go_wp2_with fail
      refine HT.out.mono ?_; rintro e w4 ⟨rfl, own5, hS, hSt⟩
      have H5 := Lib.hid (And.intro hSt (hS.loc H4.out.2))
      clear hS hSt HT
      have hbl := H5.out.2.1.cell 0
      simp only [List.getElem?_toArray, List.getElem?_cons_zero] at hbl
      have hT := st_Write H5.out.1 ((j * 4096 : Nat) : Int) 8 mk (by omega) (by omega) (by omega) (by omega) hmw0 hmw1
      rw [ok_in (n := 2 + k0) (a := j * 4096) (by omega)] at hT
      rw [show ((j * 4096 : Nat) : Int) = (j : Int) * 4096 from by omega] at hT
      have HT := Lib.hid hT
      have hor := HM.out
      clear hT
      go_wp2_with fail
      refine HT.out.mono ?_; rintro e w5 ⟨rfl, own6, hS, hSt⟩
      have hw := many_write H4.out.1 hlt ⟨hmw0, hmw1⟩
      rw [show ((j * 4096 : Nat) : Int) = (j : Int) * 4096 from by omega] at hw
      have H6 := Lib.hid (show LS w pp p1 p2 tb (2 + k0) (1 + h0) (FA (j + 1)) (MA (j + 1) mk) w5 from ⟨own6, _, hSt, hw, hS.loc H5.out.2⟩)
      clear hS hSt HT hw H5 H4 hbl
      go_wp2
      exact ⟨⟨j + 1, by omega, by go_num, H6.out⟩, by simp [intOf]; omega⟩
    · obtain rfl : j = 2 + k0 := by omega
      have hlt' : ¬ ((2 + k0 : Nat) : Int) < 2 + (k0 : Int) := by omega
      obtain ⟨c0, hc0, _, HP2⟩ := place_nat first (1 + k0) wr hf (by omega) (by omega)
      rw [show ((1 + k0 : Nat) : Int) = 2 + (k0 : Int) - 1 from by omega] at HP2
      have HPc := Lib.hid HP2
      clear HP2
      go_wp2_with fail
      refine HPc.out.mono ?_; rintro e wz ⟨rfl, rfl⟩
      clear HPc
      have H3 := Lib.hid (show LS w pp p1 p2 tb (2 + k0) (1 + h0) (FB (1 + h0) 0) (MA (2 + k0) mk) wr from by
        obtain ⟨own4, s, hSt, hPm, hbk⟩ := HR.out
        exact ⟨own4, s, hSt, hPm.congr (fun j hj => by unfold FA FB; rw [if_pos hj, if_neg (by omega)]) (fun _ _ => rfl), hbk⟩)
      clear HR H2
      obtain ⟨c, hcd⟩ : ∃ c, c = 1 + c0 := ⟨_, rfl⟩
      have HCE := Lib.hid (show 1 + (c0 : Int) = (c : Int) by omega)
      have HCK := Lib.hid (show 1 ≤ c ∧ c < 2 + k0 by omega)
      clear hcd
      go_wp2
      rw [HCE.out]
      have hck := HCK.out
      clear HCE hc0
      -- the first are released
      go_loopw [19] (fun i wr => ∃ (j : Nat), j ≤ c ∧ i = .int .i64 (j : Int) ∧ Hid (LS w pp p1 p2 tb (2 + k0) (1 + h0) (FB (1 + h0) j) (MA (2 + k0) mk) wr)) (fun i _ => c - (intOf i).toNat)
      case atStart => exact ⟨0, by omega, rfl, H3.out⟩
      case round =>
        obtain ⟨j, hj, rfl, HR⟩ := hrel
        by_cases hlt : j < c
        · have hlt' : (j : Int) < (c : Int) := by omega
          obtain ⟨own4, s, hSt, hPm, hbk⟩ := HR.out
          obtain ⟨hr1, hP2⟩ := many_relB hPm (show j < 2 + k0 by omega)
          have hr1' : relOk ((0 : Nat) : Int) s.ow (j : Int) = true := hr1
          have hT := st_Release (by omega) hSt (j : Int)
          rw [hr1', if_pos rfl] at hT
          have HT := Lib.hid hT
          have H4 := Lib.hid (And.intro hP2 hbk)
          clear hT hSt hPm hbk hr1 hr1' hP2 HR
          go_wp2_with fail
          refine HT.out.mono ?_; rintro e w4 ⟨rfl, own5, hS, hSt⟩
          obtain ⟨hr2, hr3⟩ := many_relB2 H4.out.1 (show j < 2 + k0 by omega)
          have hr2' : ¬ relOk ((0 : Nat) : Int) (relP ((0 : Nat) : Int) (1 + h0) s (j : Int)).ow (j : Int) = true := by rw [show relOk ((0 : Nat) : Int) (relP ((0 : Nat) : Int) (1 + h0) s (j : Int)).ow (j : Int) = false from hr2]; decide
          have hr3' : relP ((0 : Nat) : Int) (1 + h0) (relP ((0 : Nat) : Int) (1 + h0) s (j : Int)) (j : Int) = relP ((0 : Nat) : Int) (1 + h0) s (j : Int) := hr3
          have hT := st_Release (by omega) hSt (j : Int)
          rw [if_neg hr2', hr3'] at hT
          have HT := Lib.hid hT
          have H5 := Lib.hid (And.intro H4.out.1 (hS.loc H4.out.2))
          clear hT hS hSt hr2 hr3 hr2' hr3' H4
          go_wp2_with fail
          refine HT.out.mono ?_; rintro e w5 ⟨rfl, own6, hS, hSt⟩
          have H6 := Lib.hid (show LS w pp p1 p2 tb (2 + k0) (1 + h0) (FB (1 + h0) (j + 1)) (MA (2 + k0) mk) w5 from ⟨own6, _, hSt, H5.out.1, hS.loc H5.out.2⟩)
          clear hS hSt HT H5
          go_wp2
          exact ⟨⟨j + 1, by omega, by go_num, H6.out⟩, by simp [intOf]; omega⟩
        · obtain rfl : j = c := by omega
          have H4 := Lib.hid (show ∃ B : Nat, Bits (1 + h0) (fun x => decide (x < 0)) B ∧ LS w pp p1 p2 tb (2 + k0) (1 + h0) (FC j (B : Int)) (MA (2 + k0) mk) wr from by
            obtain ⟨own4, s, hSt, hPm, hbk⟩ := HR.out
            obtain ⟨B, hB, hBt⟩ := Bits.all (h := 1 + h0) (by omega)
            exact ⟨B, hBt.congr (fun x _ => by simp), own4, s, hSt, hPm.congr (fun x hx => by unfold FB FC; rw [hB]) (fun _ _ => rfl), hbk⟩)
          clear HR H3
          go_wp2
          -- the harts
          go_loopw [20] (fun i wr => ∃ (q : Nat), q ≤ 1 + h0 ∧ i = .int .i64 (q : Int) ∧ Hid (∃ B : Nat, Bits (1 + h0) (fun x => decide (x < q)) B ∧ LS w pp p1 p2 tb (2 + k0) (1 + h0) (FC j (B : Int)) (MA (2 + k0) mk) wr)) (fun i _ => 1 + h0 - (intOf i).toNat)
          case atStart => exact ⟨0, by omega, rfl, H4.out⟩
          case round =>
            obtain ⟨q, hq, rfl, HR⟩ := hrel
            by_cases hlt : q < 1 + h0
            · have hlt' : (q : Int) < 1 + (h0 : Int) := by omega
              obtain ⟨B, hBt, own4, s, hSt, hPm, hbk⟩ := HR.out
              obtain ⟨B', hB', hP2, hc0⟩ := many_ackC hPm hBt (by omega) hlt
              have hT := st_Ack (by omega) hSt (q : Int) (by omega) (by omega)
              rw [hc0] at hT
              have HT := Lib.hid hT
              have H5 := Lib.hid (And.intro hB' (And.intro hP2 hbk))
              clear hT hSt hPm hbk hP2 hc0 hB' hBt HR
              go_wp2_with fail
              refine HT.out.mono ?_; rintro e w4 ⟨rfl, own5, hS, hSt⟩
              have H6 := Lib.hid (show ∃ B : Nat, Bits (1 + h0) (fun x => decide (x < q + 1)) B ∧ LS w pp p1 p2 tb (2 + k0) (1 + h0) (FC j (B : Int)) (MA (2 + k0) mk) w4 from ⟨B', H5.out.1, own5, _, hSt, H5.out.2.1, hS.loc H5.out.2.2⟩)
              clear hS hSt HT H5
              go_wp2
              exact ⟨⟨q + 1, by omega, by go_num, H6.out⟩, by simp [intOf]; omega⟩
            · obtain rfl : q = 1 + h0 := by omega
              have hlt' : ¬ ((1 + h0 : Nat) : Int) < 1 + (h0 : Int) := by omega
              obtain ⟨B, hBt, hLS⟩ := HR.out
              have HB := Lib.hid hBt
              have H5 := Lib.hid (show LS w pp p1 p2 tb (2 + k0) (1 + h0) (FD j (B : Int) (1 + h0) j) (MA (2 + k0) mk) wr from by
                obtain ⟨own4, s, hSt, hPm, hbk⟩ := hLS
                exact ⟨own4, s, hSt, hPm.congr (fun x hx => by
                  unfold FC FD
                  by_cases e : x < j
                  · rw [if_pos e, if_pos e]
                  · rw [if_neg e, if_neg e, if_neg e]) (fun _ _ => rfl), hbk⟩)
              clear hBt hLS HR H4
              go_wp2
              -- the others are released
              go_loopw [21] (fun i wr => ∃ (q : Nat), j ≤ q ∧ q ≤ 2 + k0 ∧ i = .int .i64 (q : Int) ∧ Hid (LS w pp p1 p2 tb (2 + k0) (1 + h0) (FD j (B : Int) (1 + h0) q) (MA (2 + k0) mk) wr)) (fun i _ => 2 + k0 - (intOf i).toNat)
              case atStart => exact ⟨j, by omega, by omega, rfl, H5.out⟩
              case round =>
                obtain ⟨q, hq0, hq, rfl, HR⟩ := hrel
                by_cases hlt : q < 2 + k0
                · have hlt' : (q : Int) < 2 + (k0 : Int) := by omega
                  obtain ⟨own4, s, hSt, hPm, hbk⟩ := HR.out
                  obtain ⟨hr1, hP2⟩ := many_relD hPm hlt hq0
                  have hr1' : relOk ((0 : Nat) : Int) s.ow (q : Int) = true := hr1
                  have hT := st_Release (by omega) hSt (q : Int)
                  rw [hr1', if_pos rfl] at hT
                  have HT := Lib.hid hT
                  have H6 := Lib.hid (And.intro hP2 hbk)
                  clear hT hSt hPm hbk hr1 hr1' hP2 HR
                  go_wp2_with fail
                  refine HT.out.mono ?_; rintro e w4 ⟨rfl, own5, hS, hSt⟩
                  have H7 := Lib.hid (show LS w pp p1 p2 tb (2 + k0) (1 + h0) (FD j (B : Int) (1 + h0) (q + 1)) (MA (2 + k0) mk) w4 from ⟨own5, _, hSt, H6.out.1, hS.loc H6.out.2⟩)
                  clear hS hSt HT H6
                  go_wp2
                  exact ⟨⟨q + 1, by omega, by omega, by go_num, H7.out⟩, by simp [intOf]; omega⟩
                · obtain rfl : q = 2 + k0 := by omega
                  have hlt' : ¬ ((2 + k0 : Nat) : Int) < 2 + (k0 : Int) := by omega
                  obtain ⟨own4, s, hSt, hPm, hbk⟩ := HR.out
                  obtain ⟨B', hB', hP2, hcnt⟩ := many_dev hPm HB.out (by omega) (by omega) (by omega)
                  have hT := st_AckDevices hSt
                  rw [hcnt] at hT
                  have HT := Lib.hid hT
                  have H6 := Lib.hid (And.intro hB' (And.intro hP2 hbk))
                  clear hT hSt hPm hbk hP2 hcnt hB' HR HB H5
                  go_wp2_with fail
                  refine HT.out.mono ?_; rintro e w4 ⟨rfl, own5, hS, hSt⟩
                  obtain ⟨hc1, hc2⟩ := many_countE H6.out.2.1 (by omega)
                  have hT1 := st_Count hSt 0
                  have hT2 := st_Count hSt (-2)
                  simp only [PSt.z] at hc1 hc2
                  rw [hc1] at hT1
                  rw [hc2, show ((2 + k0 - j : Nat) : Int) = 2 + (k0 : Int) - (j : Int) from by omega] at hT2
                  have HT1 := Lib.hid hT1
                  have HT2 := Lib.hid hT2
                  have H7 := Lib.hid (show ∃ B : Nat, Bits (1 + h0) (fun x => decide (x < 0 ∨ x = 1 + h0)) B ∧ LS w pp p1 p2 tb (2 + k0) (1 + h0) (FE j (B : Int)) (ME j mk) w4 from ⟨B', H6.out.1.congr (fun x _ => by simp), own5, _, hSt, H6.out.2.1, hS.loc H6.out.2.2⟩)
                  clear hT1 hT2 hc1 hc2 hS hSt HT H6
                  go_wp2_with fail
                  refine HT1.out.mono ?_; rintro e wz ⟨rfl, rfl⟩
                  go_wp2_with fail
                  refine HT2.out.mono ?_; rintro e wz ⟨rfl, rfl⟩
                  clear HT1 HT2
                  obtain ⟨B2, hB2, hL2⟩ := H7.out
                  have HB := Lib.hid hB2
                  have H8 := Lib.hid hL2
                  clear H7 hB2 hL2
                  go_wp2
                  -- reads
                  go_loopw [22] (fun i wr => ∃ (q : Nat), q ≤ 2 + k0 ∧ i = .int .i64 (q : Int) ∧ Hid (LS w pp p1 p2 tb (2 + k0) (1 + h0) (FE j (B2 : Int)) (ME j mk) wr)) (fun i _ => 2 + k0 - (intOf i).toNat)
                  case atStart => exact ⟨0, by omega, rfl, H8.out⟩
                  case round =>
                    obtain ⟨q, hq, rfl, HR⟩ := hrel
                    by_cases hlt : q < 2 + k0
                    · have hlt' : (q : Int) < 2 + (k0 : Int) := by omega
                      obtain ⟨own4, s, hSt, hPm, hbk⟩ := HR.out
                      have hbl := hbk.1.cell 0
                      simp only [List.getElem?_toArray, List.getElem?_cons_zero] at hbl
                      have hT := st_Read hSt ((q * 4096 : Nat) : Int) 8 (by omega) (by omega) (by omega) (by omega)
                      rw [rd_in (n := 2 + k0) (a := q * 4096) (by omega), hPm.mem q hlt, show ((q * 4096 : Nat) : Int) = (q : Int) * 4096 from by omega] at hT
                      have HT := Lib.hid hT
                      have H9 := Lib.hid (And.intro hPm hbk)
                      clear hT hSt hPm hbk HR
                      go_wp2_with fail
                      refine HT.out.mono ?_; rintro e w6 ⟨rfl, own5, hS, hSt⟩
                      have H10 := Lib.hid (show LS w pp p1 p2 tb (2 + k0) (1 + h0) (FE j (B2 : Int)) (ME j mk) w6 from ⟨own5, _, hSt, H9.out.1, hS.loc H9.out.2⟩)
                      clear hS hSt HT H9 hbl
                      by_cases hqj : q < j
                      · rw [show ME j mk q = 0 from if_pos hqj]
                        have hqj' : decide ((q : Int) < (j : Int)) = true := by simp; omega
                        go_wp2
                        exact ⟨⟨q + 1, by omega, by go_num, H10.out⟩, by simp [intOf]; omega⟩
                      · rw [show ME j mk q = mk from if_neg hqj]
                        have hqj' : decide ((q : Int) < (j : Int)) = false := by simp; omega
                        have hmz' : (mk == 0) = false := by simpa using hmz
                        go_wp2
                        exact ⟨⟨q + 1, by omega, by go_num, H10.out⟩, by simp [intOf]; omega⟩
                    · obtain rfl : q = 2 + k0 := by omega
                      have hlt' : ¬ ((2 + k0 : Nat) : Int) < 2 + (k0 : Int) := by omega
                      have H9 := Lib.hid HR.out
                      clear HR H8
                      go_wp2
                      -- the harts, the last of them
                      go_loopw [25] (fun i wr => ∃ (q : Nat), q ≤ 1 + h0 ∧ i = .int .i64 (q : Int) ∧ Hid ((q < 1 + h0 ∧ ∃ B : Nat, Bits (1 + h0) (fun x => decide (x < q ∨ x = 1 + h0)) B ∧ LS w pp p1 p2 tb (2 + k0) (1 + h0) (FE j (B : Int)) (ME j mk) wr) ∨ (q = 1 + h0 ∧ LS w pp p1 p2 tb (2 + k0) (1 + h0) (fun _ => (0, 0)) (fun _ => 0) wr))) (fun i _ => 1 + h0 - (intOf i).toNat)
                      case atStart => exact ⟨0, by omega, rfl, Or.inl ⟨by omega, B2, HB.out, H9.out⟩⟩
                      case round =>
                        obtain ⟨q, hq, rfl, HR⟩ := hrel
                        by_cases hlt : q < 1 + h0
                        · have hlt' : (q : Int) < 1 + (h0 : Int) := by omega
                          obtain ⟨B, hBt, own4, s, hSt, hPm, hbk⟩ : ∃ B : Nat, Bits (1 + h0) (fun x => decide (x < q ∨ x = 1 + h0)) B ∧ LS w pp p1 p2 tb (2 + k0) (1 + h0) (FE j (B : Int)) (ME j mk) wr := by
                            rcases HR.out with h | h
                            · exact h.2
                            · omega
                          have hT := st_Ack (by omega) hSt (q : Int) (by omega) (by omega)
                          by_cases hl : q + 1 = 1 + h0
                          · obtain ⟨hP2, hcnt⟩ := many_last hPm hBt (by omega) hl (by omega)
                            rw [hcnt, show ((2 + k0 - j : Nat) : Int) = 2 + (k0 : Int) - (j : Int) from by omega] at hT
                            have HT := Lib.hid hT
                            have H10 := Lib.hid (And.intro hP2 hbk)
                            have hle : ((q : Int) == 1 + (h0 : Int) - 1) = true := by simp; omega
                            clear hT hSt hPm hbk hP2 hcnt hBt HR H9 HB
                            go_wp2_with fail
                            refine HT.out.mono ?_; rintro e w6 ⟨rfl, own5, hS, hSt⟩
                            have H11 := Lib.hid (show LS w pp p1 p2 tb (2 + k0) (1 + h0) (fun _ => (0, 0)) (fun _ => 0) w6 from ⟨own5, _, hSt, H10.out.1, hS.loc H10.out.2⟩)
                            clear hS hSt HT H10
                            go_wp2
                            exact ⟨⟨q + 1, by omega, by go_num, Or.inr ⟨hl, H11.out⟩⟩, by simp [intOf]; omega⟩
                          · obtain ⟨B', hB', hP2, hcnt⟩ := many_ackF hPm hBt (by omega) (by omega)
                            rw [hcnt] at hT
                            have HT := Lib.hid hT
                            have H10 := Lib.hid (And.intro hB' (And.intro hP2 hbk))
                            have hle : ((q : Int) == 1 + (h0 : Int) - 1) = false := by simp; omega
                            clear hT hSt hPm hbk hP2 hcnt hBt HR H9 HB hB'
                            go_wp2_with fail
                            refine HT.out.mono ?_; rintro e w6 ⟨rfl, own5, hS, hSt⟩
                            have H11 := Lib.hid (show ∃ B : Nat, Bits (1 + h0) (fun x => decide (x < q + 1 ∨ x = 1 + h0)) B ∧ LS w pp p1 p2 tb (2 + k0) (1 + h0) (FE j (B : Int)) (ME j mk) w6 from ⟨B', H10.out.1, own5, _, hSt, H10.out.2.1, hS.loc H10.out.2.2⟩)
                            clear hS hSt HT H10
                            go_wp2
                            exact ⟨⟨q + 1, by omega, by go_num, Or.inl ⟨by omega, H11.out⟩⟩, by simp [intOf]; omega⟩
                        · obtain rfl : q = 1 + h0 := by omega
                          have hlt' : ¬ ((1 + h0 : Nat) : Int) < 1 + (h0 : Int) := by omega
                          obtain ⟨own4, s, hSt, hPm, hbk⟩ : LS w pp p1 p2 tb (2 + k0) (1 + h0) (fun _ => (0, 0)) (fun _ => 0) wr := by
                            rcases HR.out with h | h
                            · omega
                            · exact h.2
                          have hT := st_Count hSt 0
                          rw [many_all hPm, hke] at hT
                          have HT := Lib.hid hT
                          have hU := Lib.hid hSt.upd
                          clear hT hSt hPm hbk HR H9 HB
                          go_wp2_with fail
                          refine HT.out.mono ?_; rintro e wz ⟨rfl, rfl⟩
                          go_wp2_with fail
                          refine (awake_calls _).mono ?_; rintro e w8 ⟨rfl, hU8⟩
                          go_wp2
                          go_ret
                          exact ⟨rfl, hU.out.trans hU8⟩
end Go.Proofs.Ytpodeclkgcgpgaa
