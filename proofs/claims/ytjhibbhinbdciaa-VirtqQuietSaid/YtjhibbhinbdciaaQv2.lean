import Derived.Test.YtjhibbhinbdciaaQu8
/- VirtqQuiet: the walk. -/
namespace Go.Proofs.Ytjhibbhinbdciaa
set_option linter.unusedVariables false
set_option linter.unusedSimpArgs false
open Go.RowKit
set_option maxRecDepth 100000
theorem quiet_put (m : Nat → Int) (A : Nat) (fl : Int) : quietQ 0 1 (wrR 0 1 m (A : Int) 2 fl) ⟨true, false, 4, 0, A, 0, 0, 0⟩ = ((okS 2 && hasR 0 1 (A : Int) 2) && (fl % 2 == 1)) := by
  unfold quietQ
  show (true && ((rdR 0 1 (wrR 0 1 m (A : Int) 2 fl) (A : Int) 2).1 % 2 == 1)) = _
  cases h : hasR 0 1 (A : Int) 2 with
  | false => unfold rdR; rw [h]; rfl
  | true =>
    unfold rdR wrR
    rw [h, if_pos (by decide), if_pos (by decide)]
    show (true && (num (put m ((A : Int) - (0 : Nat)).toNat (2 : Int).toNat fl) ((A : Int) - (0 : Nat)).toNat (2 : Int).toNat % 2 == 1)) = ((true && true) && (fl % 2 == 1))
    rw [num_put, show (256 : Int) ^ (2 : Int).toNat = 65536 by decide]
    have : fl % 65536 % 2 = fl % 2 := by omega
    rw [this]
    rfl
theorem okSetA (A : Nat) (h : A < 4200) (h2 : A % 2 = 0) : okSet 4 0 A 0 = true := by
  unfold okSet
  rw [decide_eq_true h2, decide_eq_true (show 0 < 1152921504606846976 ∧ A < 1152921504606846976 ∧ 0 < 1152921504606846976 by omega)]
  rfl
set_option maxHeartbeats 4000000 in
theorem quiet_calls (flags at_ : Int) (hf : 0 ≤ flags ∧ flags ≤ 18446744073709551615) (ha : 0 ≤ at_ ∧ at_ ≤ 18446744073709551615) (w : World) :
    Calls Try.prog 6 #[.int .u64 flags, .int .u64 at_] w fun x w' => x = .returned (.bool true) ∧ Upd (fun _ => False) w w' := by
  obtain ⟨A, hA⟩ : ∃ a : Nat, at_ % 4200 / 2 * 2 = (a : Int) := ⟨(at_ % 4200 / 2 * 2).toNat, by omega⟩
  have hAb : A < 4200 ∧ A % 2 = 0 := by omega
  have ht1 : Int.tmod at_ 4200 = at_ % 4200 := Int.tmod_eq_emod_of_nonneg ha.1
  have ht2 : Int.tdiv (at_ % 4200) 2 = at_ % 4200 / 2 := Int.tdiv_eq_ediv_of_nonneg (by omega)
  have ht3 : IntKind.u64.wrap (at_ % 4200 / 2 * 2) = (A : Int) := by rw [IntWalk.u64_in _ (by omega)]; exact hA
  have htf : Int.tmod flags 2 = flags % 2 := Int.tmod_eq_emod_of_nonneg hf.1
  have hMm := law_Memory 1 (by decide) (by decide) (fun _ => 0) 1 2 (by decide) w
  rw [show ((1 : Nat) : Int) = 1 from rfl] at hMm
  have HM := Lib.hid hMm
  clear hMm
  go_enter Try.func6, Try.ntmps6
  go_wp2_with fail
  ((with_reducible refine HM.out.mono ?_); rintro x w1 ⟨p1, p2, own1, rfl, hS1, hm1, hm2⟩)
  have hS2 : Step (fun _ => False) own1 w1 (ext own1 w1 9) (w1.alloc (.cells #[.pointer (some ⟨p1, 0, none⟩), .pointer (some ⟨p2, 0, none⟩)] 26)) := ⟨(Upd.refl _ _).alloc _, fun b hb => ext_old _ _ _ hb⟩
  have HN := Lib.hid (q_New (ext own1 w1 9) 3 (w1.alloc (.cells #[.pointer (some ⟨p1, 0, none⟩), .pointer (some ⟨p2, 0, none⟩)] 26)))
  have hO : ∀ b, b < w.heap.size → ext own1 w1 9 b = 0 := fun b hb => (ext_old own1 w1 9 (Nat.lt_of_lt_of_le hb hS1.upd.size)).trans (hS1.old b hb)
  have H1 := Lib.hid (And.intro ((hS1.trans hS2).upd.mono (fun _ _ h => h.elim) : Upd (fun _ => False) w _) (And.intro hO (And.intro (hm1.step hS2 (fun h => h)) (And.intro (Blk.new w1 26 #[.pointer (some ⟨p1, 0, none⟩), .pointer (some ⟨p2, 0, none⟩)]) (show ext own1 w1 9 w1.heap.size = 9 from ext_new _ _ _ (Nat.le_refl _))))))
  clear hS1 hm1 hm2 hS2 hO HM
  go_wp2_with fail
  ((with_reducible refine HN.out.mono ?_); rintro x w2 ⟨p, own2, rfl, hS2, hQ2⟩)
  have hb2 := hS2.blk H1.out.2.2.2.1 H1.out.2.2.2.2 (fun h => h)
  have hM2 := H1.out.2.2.1.step hS2 (fun h => h)
  have hU2 := H1.out.1.trans hS2.upd
  have hO2 : ∀ b, b < w.heap.size → own2 b = 0 := fun b hb => (hS2.old b (Nat.lt_of_lt_of_le hb H1.out.1.size)).trans (H1.out.2.1 b hb)
  have hq1 := q_Quiet hQ2 hM2 (by decide)
  unfold memV at hq1
  rw [show quietQ 0 1 (fun _ => 0) qu0 = false from rfl] at hq1
  have HQ1 := Lib.hid hq1
  have x0 := hb2.1.cell 0
  simp only [List.getElem?_toArray, List.getElem?_cons_zero] at x0
  have H2 := Lib.hid (And.intro hU2 (And.intro hO2 (And.intro hb2 (And.intro hQ2 hM2))))
  clear hS2 hQ2 hb2 hM2 hU2 hO2 hq1 H1 HN
  generalize w1.heap.size = xb at *
  go_wp2_with fail
  ((with_reducible refine HQ1.out.mono ?_); rintro x wz ⟨rfl, kq, rfl⟩)
  clear HQ1
  have hst3 : Step (fun _ => False) own2 w2 own2 (w2.drewN kq) := (Step.refl _ _ _).drewN kq
  have hSe := q_Setup (H2.out.2.2.2.1.step hst3 (fun h => h)) 4 0 A 0 (by decide) (by decide) (by omega) (by decide)
  rw [show setR qu0 4 0 A 0 = 0 by unfold setR; rw [okSetA A hAb.1 hAb.2]; rfl, show setQ qu0 4 0 A 0 = ⟨true, false, 4, 0, A, 0, 0, 0⟩ by unfold setQ; rw [okSetA A hAb.1 hAb.2]; rfl, show ((0 : Nat) : Int) = 0 from rfl] at hSe
  have HSe := Lib.hid hSe
  have HAb := Lib.hid (And.intro hAb (And.intro hf ha))
  clear hSe hst3 hA hAb hf ha
  go_wp2_with fail
  ((with_reducible refine HSe.out.mono ?_); rintro x w3 ⟨rfl, hS3, hQ3⟩)
  have hs0 : Step (fun _ => False) own2 w2 own2 (w2.drewN kq) := (Step.refl _ _ _).drewN kq
  have hb3 := hS3.blk (hs0.blk H2.out.2.2.1.1 H2.out.2.2.1.2 (fun h => h)).1 (hs0.blk H2.out.2.2.1.1 H2.out.2.2.1.2 (fun h => h)).2 (by decide)
  have hM3 := (H2.out.2.2.2.2.step hs0 (fun h => h)).step hS3 (by decide)
  have hU3 := (H2.out.1.trans hs0.upd).trans' hS3.upd (fun i hi e => by rw [H2.out.2.1 i hi] at e; cases e)
  have hWr := ram_Write hM3 (A : Int) 2 flags (by omega) (by have := HAb.out; omega) (by decide) (by decide) HAb.out.2.1.1 (by have := HAb.out; omega)
  obtain ⟨TH, hTH⟩ : ∃ b, (okS 2 && hasR 0 1 (A : Int) 2) = b := ⟨_, rfl⟩
  rw [hTH] at hWr
  have HWr := Lib.hid hWr
  clear x0
  have x0 := hb3.1.cell 0
  simp only [List.getElem?_toArray, List.getElem?_cons_zero] at x0
  have H3 := Lib.hid (And.intro hU3 (And.intro hb3 hQ3))
  have HTH := Lib.hid hTH
  clear hs0 hb3 hM3 hU3 hWr hTH hS3 hQ3 HSe
  go_wp2_with fail
  ((with_reducible refine HWr.out.mono ?_); rintro x w4 ⟨rfl, own4, hS4, hM4⟩)
  have hb4 := hS4.blk H3.out.2.1.1 H3.out.2.1.2 (by decide)
  have hQ4 := H3.out.2.2.step hS4 (by decide)
  have hU4 := H3.out.1.trans' hS4.upd (fun i hi e => by rw [H2.out.2.1 i hi] at e; cases e)
  have hQq := q_Quiet hQ4 hM4 (by have := HAb.out; show A < 1152921504606846976; omega)
  rw [quiet_put, HTH.out] at hQq
  unfold memV at hQq
  have HQq := Lib.hid hQq
  clear x0
  have x0 := hb4.1.cell 0
  simp only [List.getElem?_toArray, List.getElem?_cons_zero] at x0
  have HU4 := Lib.hid hU4
  clear hS4 hM4 hb4 hQ4 hU4 hQq HWr H3 H2
  go_wp2_with fail
  ((with_reducible refine HQq.out.mono ?_); rintro x wz ⟨rfl, kq2, rfl⟩)
  obtain ⟨F2, hF2⟩ : ∃ b, (flags % 2 == 1) = b := ⟨_, rfl⟩
  rw [hF2]
  clear HQq
  cases TH
  · go_wp2_with (go_at_call 19; (with_reducible refine (awake13 _).mono ?_); rintro e w10 ⟨rfl, hU10⟩)
    go_ret
    exact ⟨rfl, (HU4.out.drewN _).trans hU10⟩
  · cases F2
    · go_wp2_with (go_at_call 19; (with_reducible refine (awake13 _).mono ?_); rintro e w10 ⟨rfl, hU10⟩)
      go_ret
      exact ⟨rfl, (HU4.out.drewN _).trans hU10⟩
    · go_wp2_with (go_at_call 19; (with_reducible refine (awake13 _).mono ?_); rintro e w10 ⟨rfl, hU10⟩)
      go_ret
      exact ⟨rfl, (HU4.out.drewN _).trans hU10⟩
end Go.Proofs.Ytjhibbhinbdciaa
