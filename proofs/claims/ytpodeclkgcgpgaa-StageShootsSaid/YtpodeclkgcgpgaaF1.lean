import Derived.Test.YtpodeclkgcgpgaaPool5
/- citadellaw09.awake -/
namespace Go.Proofs.Ytpodeclkgcgpgaa
set_option linter.unusedVariables false
open Go.RowKit
set_option maxRecDepth 100000

theorem place_calls (v n : Int) (w : World) (hv0 : -9223372036854775808 ≤ v) (hv1 : v ≤ 9223372036854775807) (hn : 0 < n) (hn1 : n ≤ 1000000) :
    Calls Try.prog 17 #[.int .i64 v, .int .i64 n] w fun e w' => e = .returned (.int .i64 (v % n)) ∧ w = w' := by
  have hz : (n == 0) = false := by simp; omega
  go_enter Try.func17, Try.ntmps17
  have ht := Int.tmod_eq_emod (a := v) (b := n)
  have h0 := Int.emod_nonneg v (Int.ne_of_gt hn)
  have h1 := Int.emod_lt_of_pos v hn
  have HT := Lib.hid ht
  clear ht
  go_wp2
  · rename_i hlt
    go_ret
    refine ⟨?_, rfl⟩
    have ht := HT.out
    split at ht
    · rw [ht] at hlt; omega
    · rw [show (n.natAbs : Int) = n from by omega] at ht
      show Ending.returned (.int .i64 (wrap64 (v.tmod n + n))) = _
      rw [ht, show v % n - n + n = v % n from by omega, IntWalk.wrap64_in _ (by omega)]
  · rename_i hlt
    go_ret
    refine ⟨?_, rfl⟩
    have ht := HT.out
    split at ht
    · rw [show v.tmod n = v % n from by rw [ht]; simp]; rfl
    · rw [show (n.natAbs : Int) = n from by omega] at ht; omega

theorem awake_calls (w : World) : Calls Try.prog 26 #[] w fun e w' => e = .returned (.bool true) ∧ Upd (fun _ => False) w w' := by
  go_enter Try.func26, Try.ntmps26
  go_wp2_with fail
  refine (law_Memory 4 (by omega) (by omega) (fun _ => 0) 1 2 (by omega) _).mono ?_
  rintro e w1 ⟨p1, p2, own1, rfl, hS1, hM1, hM2⟩
  have H1 := Lib.hid (And.intro hS1 hM1)
  clear hS1 hM1 hM2
  go_wp2_with fail
  have hA : Step (fun _ => False) own1 w1 own1 (w1.alloc (.cells #[.pointer (some ⟨p1, 0, none⟩), .pointer (some ⟨p2, 0, none⟩)] 27)) := ⟨(Upd.refl _ _).alloc _, fun _ _ => rfl⟩
  have H1' := Lib.hid (And.intro (H1.out.1.trans hA) (H1.out.2.step hA (fun h => h)))
  clear hA H1
  refine (pool_New H1'.out.2 1 2 (by omega) (by omega) (by omega) 3).mono ?_
  rintro e w2 ⟨pp, own2, rfl, hS2, hP2⟩
  have hM2 := H1'.out.2.step hS2 (fun h => h)
  have H2 := Lib.hid (And.intro (H1'.out.1.trans hS2) (And.intro hP2 hM2))
  clear hS2 hP2 hM2 H1'
  go_wp2_with fail
  have hT := pool_Take H2.out.2.1 1
  rw [show takeP (initO 4 1) 1 = (1, 0, [-1, 1, 0, 0]) from by decide] at hT
  refine hT.mono ?_
  rintro e w3 ⟨rfl, hS3, hP3⟩
  have hM3 := H2.out.2.2.step hS3 (by omega)
  have hR := pool_Release (hn := 2) (c := 3) (cr := 1) (by omega) (by omega) ⟨[-1, 1, 0, 0], [0, 0, 0, 0], fun _ => 0, 0⟩ ⟨hP3, hM3⟩ 1
  rw [show relOk ((1 : Nat) : Int) (PSt.mk [-1, 1, 0, 0] [0, 0, 0, 0] (fun _ => 0) 0).ow 1 = true from by decide, if_pos rfl,
    show relP ((1 : Nat) : Int) 2 ⟨[-1, 1, 0, 0], [0, 0, 0, 0], fun _ => 0, 0⟩ 1 = ⟨[-1, -2, 0, 0], [0, allB 2, 0, 0], fun _ => 0, 0⟩ from rfl] at hR
  have HR := Lib.hid hR
  have H3 := Lib.hid (And.intro H2.out.1 hS3)
  clear hS3 hP3 hM3 H2 hR hT
  go_wp2_with fail
  refine HR.out.mono ?_
  rintro e w4 ⟨rfl, own4, hS4, hPM4⟩
  have hO := pool_Owner hPM4.1 1
  rw [show ownerP (PSt.mk [-1, -2, 0, 0] [0, allB 2, 0, 0] (fun _ => 0) 0).ow 1 = -2 from by decide] at hO
  have HO := Lib.hid hO
  have H4 := Lib.hid (And.intro hS4 hPM4)
  clear hS4 hPM4 hO HR
  go_wp2_with fail
  refine HO.out.mono ?_
  rintro e w' ⟨rfl, rfl⟩
  clear HO
  have hA := pool_Ack (hn := 2) (by omega) (by omega) _ rfl H4.out.2 0 (by omega) (by omega)
  rw [show ackP 2 4 ⟨[-1, -2, 0, 0], [0, allB 2, 0, 0], fun _ => 0, 0⟩ 0 = ⟨[-1, -2, 0, 0], [0, 9223372036854775810, 0, 0], fun _ => 0, 0⟩ from by kernel_rfl] at hA
  have HA := Lib.hid hA
  clear hA
  go_wp2_with fail
  refine HA.out.mono ?_
  rintro e w5 ⟨rfl, own5, hS5, hPM5⟩
  have hB := pool_Ack (hn := 2) (by omega) (by omega) _ rfl hPM5 1 (by omega) (by omega)
  rw [show ackP 2 4 ⟨[-1, -2, 0, 0], [0, 9223372036854775810, 0, 0], fun _ => 0, 0⟩ 1 = ⟨[-1, -2, 0, 0], [0, 9223372036854775808, 0, 0], fun _ => 0, 0⟩ from by kernel_rfl] at hB
  have HB := Lib.hid hB
  have H5 := Lib.hid (H4.out.1.trans hS5)
  clear hB hS5 hPM5 HA H4
  go_wp2_with fail
  refine HB.out.mono ?_
  rintro e w6 ⟨rfl, own6, hS6, hPM6⟩
  have hC := pool_AckDevices (by omega) _ rfl hPM6
  obtain ⟨m7, hm7⟩ : ∃ m7, ackN (notB 9223372036854775808) ⟨[-1, -2, 0, 0], [0, 9223372036854775808, 0, 0], fun _ => 0, 0⟩ 4 = ⟨[-1, 0, 0, 0], [0, 0, 0, 0], m7, 1⟩ := ⟨clrF (fun _ => 0) 1, by kernel_rfl⟩
  rw [hm7] at hC
  have HC := Lib.hid hC
  have H6 := Lib.hid (H5.out.trans hS6)
  clear hC hS6 hPM6 HB H5 hm7
  go_wp2_with fail
  refine HC.out.mono ?_
  rintro e w7 ⟨rfl, own7, hS7, hPM7⟩
  have hO := pool_Owner hPM7.1 1
  rw [show ownerP (PSt.mk [-1, 0, 0, 0] [0, 0, 0, 0] m7 1).ow 1 = 0 from rfl] at hO
  have HO := Lib.hid hO
  have H7 := Lib.hid (H6.out.trans hS7)
  clear hO hS7 hPM7 HC H6
  go_wp2_with fail
  refine HO.out.mono ?_
  rintro e w8 ⟨rfl, rfl⟩
  go_wp2
  go_ret
  have hS := ((H3.out.1.mono (C' := fun x => x = 3 ∨ x = 1) (fun _ h => h.elim)).trans (H3.out.2.mono (fun _ h => Or.inl h))).trans H7.out
  exact ⟨rfl, hS.upd.mono (fun _ _ h => by rcases h with h | h <;> cases h)⟩
end Go.Proofs.Ytpodeclkgcgpgaa
