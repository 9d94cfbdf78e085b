import Derived.Test.YtjhibbhinbdciaaQu8
/- VirtqSettings: the walk. -/
namespace Go.Proofs.Ytjhibbhinbdciaa
set_option linter.unusedVariables false
set_option linter.unusedSimpArgs false
open Go.RowKit
set_option maxRecDepth 100000
theorem setR0 (size : Int) (d a u : Nat) : setR qu0 size d a u = if okSet size d a u = true then 0 else 1 := rfl
theorem setQ0 (size : Int) (d a u : Nat) : setQ qu0 size d a u = if okSet size d a u = true then ⟨true, false, size.toNat, d, a, u, 0, 0⟩ else qu0 := rfl
set_option maxHeartbeats 8000000 in
theorem settings_calls (size : Int) (d a u : Nat) (hs : -9223372036854775808 ≤ size ∧ size ≤ 9223372036854775807) (hd : d < 18446744073709551616) (ha : a < 18446744073709551616) (hu : u < 18446744073709551616) (w : World) :
    Calls Try.prog 5 #[.int .i64 size, .int .u64 (d : Int), .int .u64 (a : Int), .int .u64 (u : Int)] w fun e w' => e = .returned (.bool true) ∧ Upd (fun _ => False) w w' := by
  have HN := Lib.hid (q_New (fun _ => 0) 3 w)
  obtain ⟨PW, hPW⟩ : ∃ b, decide (size = 1 ∨ size = 2 ∨ size = 4 ∨ size = 8 ∨ size = 16 ∨ size = 32 ∨ size = 64) = b := ⟨_, rfl⟩
  obtain ⟨OK, hOK⟩ : ∃ b, okSet size d a u = b := ⟨_, rfl⟩
  have hOP : (PW && (decide (d % 16 = 0) && (decide (a % 2 = 0) && (decide (u % 4 = 0) && decide (d < 1152921504606846976 ∧ a < 1152921504606846976 ∧ u < 1152921504606846976))))) = OK := by rw [← hOK, ← hPW]; rfl
  have HO := Lib.hid (And.intro hOP (And.intro hPW hOK))
  clear hPW hOK hOP
  go_enter Try.func5, Try.ntmps5
  go_wp2_with fail
  ((with_reducible refine HN.out.mono ?_); rintro x w1 ⟨p, own1, rfl, hS1, hQ1⟩)
  have hU1 : Upd (fun _ => False) w w1 := hS1.upd
  have hO1 : ∀ b, b < w.heap.size → own1 b = 0 := fun b hb => hS1.old b hb
  have hSe := q_Setup hQ1 size d a u hs hd ha hu
  rw [setR0, setQ0, HO.out.2.2] at hSe
  have HSe := Lib.hid hSe
  have H1 := Lib.hid (And.intro hU1 hO1)
  clear hS1 hQ1 hU1 hO1 hSe HN
  go_upto_region 4 with fail
  go_cut [10] (fun s10 wx => s10 = .bool PW ∧ wx = w1)
  case first =>
    cases PW with
    | true =>
      have hc := of_decide_eq_true HO.out.2.1
      clear hs
      rcases hc with rfl | rfl | rfl | rfl | rfl | rfl | rfl
      all_goals
        go_wp2
        go_meet
        exact ⟨rfl, rfl⟩
    | false =>
      have hc := of_decide_eq_false HO.out.2.1
      have h1 : (size == 1) = false := by simp; omega
      have h2 : (size == 2) = false := by simp; omega
      have h3 : (size == 4) = false := by simp; omega
      have h4 : (size == 8) = false := by simp; omega
      have h5 : (size == 16) = false := by simp; omega
      have h6 : (size == 32) = false := by simp; omega
      have h7 : (size == 64) = false := by simp; omega
      clear hc
      go_wp2
      go_meet
      exact ⟨rfl, rfl⟩
  case rest =>
    obtain ⟨rfl, rfl⟩ := hcut
    go_upto_region 5 with fail
    go_cut [11] (fun s11 wx => s11 = .bool OK ∧ ∃ _h : Unit, wx = wc)
    case first =>
      have t1 : Int.tmod (d : Int) 16 = ((d % 16 : Nat) : Int) := by rw [Int.tmod_eq_emod_of_nonneg (by omega)]; omega
      have t2 : Int.tmod (a : Int) 2 = ((a % 2 : Nat) : Int) := by rw [Int.tmod_eq_emod_of_nonneg (by omega)]; omega
      have t3 : Int.tmod (u : Int) 4 = ((u % 4 : Nat) : Int) := by rw [Int.tmod_eq_emod_of_nonneg (by omega)]; omega
      cases PW with
      | false =>
        go_wp2
        go_meet
        exact ⟨by rw [← HO.out.1]; rfl, (), rfl⟩
      | true =>
        by_cases h3 : d % 16 = 0
        · by_cases h4 : a % 2 = 0
          · by_cases h5 : u % 4 = 0
            · have HD := Lib.hid (show decide (d < 1152921504606846976 ∧ a < 1152921504606846976 ∧ u < 1152921504606846976) = OK by rw [← HO.out.1, decide_eq_true h3, decide_eq_true h4, decide_eq_true h5]; rfl)
              by_cases g1 : d < 1152921504606846976
              · by_cases g2 : a < 1152921504606846976
                · by_cases g3 : u < 1152921504606846976
                  · have i_d : decide ((d : Int) < 1152921504606846976) = true := decide_eq_true (by omega)
                    have i_a : decide ((a : Int) < 1152921504606846976) = true := decide_eq_true (by omega)
                    have i_u : decide ((u : Int) < 1152921504606846976) = true := decide_eq_true (by omega)
                    have HE := Lib.hid (show OK = true by rw [← HD.out]; exact decide_eq_true ⟨g1, g2, g3⟩)
                    clear g1 g2 g3 HD
                    go_wp2
                    go_meet
                    exact ⟨by rw [HE.out], (), rfl⟩
                  · have i_d : decide ((d : Int) < 1152921504606846976) = true := decide_eq_true (by omega)
                    have i_a : decide ((a : Int) < 1152921504606846976) = true := decide_eq_true (by omega)
                    have i_u : decide ((u : Int) < 1152921504606846976) = false := decide_eq_false (by omega)
                    have HE := Lib.hid (show OK = false by rw [← HD.out]; exact decide_eq_false (fun h => g3 h.2.2))
                    clear g1 g2 g3 HD
                    go_wp2
                    go_meet
                    exact ⟨by rw [HE.out], (), rfl⟩
                · have i_d : decide ((d : Int) < 1152921504606846976) = true := decide_eq_true (by omega)
                  have i_a : decide ((a : Int) < 1152921504606846976) = false := decide_eq_false (by omega)
                  have HE := Lib.hid (show OK = false by rw [← HD.out]; exact decide_eq_false (fun h => g2 h.2.1))
                  clear g1 g2 HD
                  go_wp2
                  go_meet
                  exact ⟨by rw [HE.out], (), rfl⟩
              · have i_d : decide ((d : Int) < 1152921504606846976) = false := decide_eq_false (by omega)
                have HE := Lib.hid (show OK = false by rw [← HD.out]; exact decide_eq_false (fun h => g1 h.1))
                go_wp2
                go_meet
                exact ⟨by rw [HE.out], (), rfl⟩
            · have HE := Lib.hid (show OK = false by rw [← HO.out.1, decide_eq_false h5]; simp)
              go_wp2
              go_meet
              exact ⟨by rw [HE.out], (), rfl⟩
          · have HE := Lib.hid (show OK = false by rw [← HO.out.1, decide_eq_false h4]; simp)
            go_wp2
            go_meet
            exact ⟨by rw [HE.out], (), rfl⟩
        · have HE := Lib.hid (show OK = false by rw [← HO.out.1, decide_eq_false h3]; simp)
          go_wp2
          go_meet
          exact ⟨by rw [HE.out], (), rfl⟩
    case rest =>
      obtain ⟨rfl, _, rfl⟩ := hcut
      clear HO hs hd ha hu
      go_wp2_with fail
      ((with_reducible refine HSe.out.mono ?_); rintro x w2 ⟨rfl, hS2, hQ2⟩)
      have hU2 := H1.out.1.trans' hS2.upd (fun i hi e => by rw [H1.out.2 i hi] at e; cases e)
      have HRy := Lib.hid (q_Ready hQ2)
      have HDd := Lib.hid (q_Dead hQ2)
      have HRs := Lib.hid (q_Reset hQ2)
      have hs2 := q_Setup hQ2 2 0 0 0 (by decide) (by decide) (by decide) (by decide)
      rw [show ((0 : Nat) : Int) = 0 from rfl] at hs2
      have HS2 := Lib.hid hs2
      clear hs2
      have HU2 := Lib.hid hU2
      clear hU2 hS2 hQ2 HSe
      cases OK with
      | false =>
        go_wp2_with fail
        ((with_reducible refine HRy.out.mono ?_); rintro x wz ⟨rfl, rfl⟩)
        go_wp2_with fail
        ((with_reducible refine HDd.out.mono ?_); rintro x wz ⟨rfl, rfl⟩)
        clear HRy HDd HS2
        go_wp2_with fail
        ((with_reducible refine HRs.out.mono ?_); rintro x w3 ⟨rfl, hS3, hQ3⟩)
        have hU3 := HU2.out.trans' hS3.upd (fun i hi e => by rw [H1.out.2 i hi] at e; cases e)
        have HRy3 := Lib.hid (q_Ready hQ3)
        have hSe3 := q_Setup hQ3 2 16 2 4 (by decide) (by decide) (by decide) (by decide)
        rw [show setR qu0 2 16 2 4 = 0 by kernel_rfl, show ((16 : Nat) : Int) = 16 from rfl, show ((2 : Nat) : Int) = 2 from rfl, show ((4 : Nat) : Int) = 4 from rfl] at hSe3
        have HSe3 := Lib.hid hSe3
        have HU3 := Lib.hid hU3
        clear hU3 hS3 hQ3 hSe3 HRs HU2
        go_wp2_with fail
        ((with_reducible refine HRy3.out.mono ?_); rintro x wz ⟨rfl, rfl⟩)
        go_wp2_with fail
        ((with_reducible refine HSe3.out.mono ?_); rintro x w4 ⟨rfl, hS4, _⟩)
        have HU4 := Lib.hid (HU3.out.trans' hS4.upd (fun i hi e => by rw [H1.out.2 i hi] at e; cases e))
        clear hS4 HSe3 HRy3 HU3
        go_wp2_with (go_at_call 19; (with_reducible refine (awake13 _).mono ?_); rintro e w10 ⟨rfl, hU10⟩)
        go_ret
        exact ⟨rfl, HU4.out.trans hU10⟩
      | true =>
        go_wp2_with fail
        ((with_reducible refine HRy.out.mono ?_); rintro x wz ⟨rfl, rfl⟩)
        go_wp2_with fail
        ((with_reducible refine HDd.out.mono ?_); rintro x wz ⟨rfl, rfl⟩)
        clear HRy HDd HRs
        go_wp2_with fail
        ((with_reducible refine HS2.out.mono ?_); rintro x w2' ⟨rfl, hS2', hQ2'⟩)
        have hU2' := HU2.out.trans' hS2'.upd (fun i hi e => by rw [H1.out.2 i hi] at e; cases e)
        have HRs := Lib.hid (q_Reset hQ2')
        clear HU2 hS2' hQ2' HS2
        have HU2 := Lib.hid hU2'
        clear hU2'
        go_wp2_with fail
        ((with_reducible refine HRs.out.mono ?_); rintro x w3 ⟨rfl, hS3, hQ3⟩)
        have hU3 := HU2.out.trans' hS3.upd (fun i hi e => by rw [H1.out.2 i hi] at e; cases e)
        have HRy3 := Lib.hid (q_Ready hQ3)
        have hSe3 := q_Setup hQ3 2 16 2 4 (by decide) (by decide) (by decide) (by decide)
        rw [show setR qu0 2 16 2 4 = 0 by kernel_rfl, show ((16 : Nat) : Int) = 16 from rfl, show ((2 : Nat) : Int) = 2 from rfl, show ((4 : Nat) : Int) = 4 from rfl] at hSe3
        have HSe3 := Lib.hid hSe3
        have HU3 := Lib.hid hU3
        clear hU3 hS3 hQ3 hSe3 HRs HU2
        go_wp2_with fail
        ((with_reducible refine HRy3.out.mono ?_); rintro x wz ⟨rfl, rfl⟩)
        go_wp2_with fail
        ((with_reducible refine HSe3.out.mono ?_); rintro x w4 ⟨rfl, hS4, _⟩)
        have HU4 := Lib.hid (HU3.out.trans' hS4.upd (fun i hi e => by rw [H1.out.2 i hi] at e; cases e))
        clear hS4 HSe3 HRy3 HU3
        go_wp2_with (go_at_call 19; (with_reducible refine (awake13 _).mono ?_); rintro e w10 ⟨rfl, hU10⟩)
        go_ret
        exact ⟨rfl, HU4.out.trans hU10⟩
theorem settings_callsI (size d a u : Int) (hs : -9223372036854775808 ≤ size ∧ size ≤ 9223372036854775807) (hd : 0 ≤ d ∧ d ≤ 18446744073709551615) (ha : 0 ≤ a ∧ a ≤ 18446744073709551615) (hu : 0 ≤ u ∧ u ≤ 18446744073709551615) (w : World) :
    Calls Try.prog 5 #[.int .i64 size, .int .u64 d, .int .u64 a, .int .u64 u] w fun e w' => e = .returned (.bool true) ∧ Upd (fun _ => False) w w' := by
  obtain ⟨d, rfl⟩ := Int.eq_ofNat_of_zero_le hd.1
  obtain ⟨a, rfl⟩ := Int.eq_ofNat_of_zero_le ha.1
  obtain ⟨u, rfl⟩ := Int.eq_ofNat_of_zero_le hu.1
  exact settings_calls size d a u hs (by omega) (by omega) (by omega) w
end Go.Proofs.Ytjhibbhinbdciaa
