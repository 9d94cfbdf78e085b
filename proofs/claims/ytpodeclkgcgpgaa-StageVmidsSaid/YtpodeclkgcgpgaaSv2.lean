import Derived.Test.YtpodeclkgcgpgaaSv
/- StageVmids' walk -/
namespace Go.Proofs.Ytpodeclkgcgpgaa
set_option linter.unusedVariables false
open Go.RowKit
set_option maxRecDepth 100000

theorem VT.fv {D D' : Nat → Bool} {q : Nat} {er : Int} (h : VT D q D' er) : FV D 1 q := by
  cases h with
  | no h => exact Or.inl ⟨rfl, h⟩
  | yes q h1 h2 h3 h4 => exact Or.inr ⟨h1, h2, h3, h4⟩
theorem updB_same {D : Nat → Bool} {k : Nat} {b : Bool} (h : D k = b) : updB D k b = D := by
  funext j; unfold updB; split
  · rename_i e; subst e; exact h.symm
  · rfl
set_option maxHeartbeats 2000000 in
theorem vmids_calls (A : Option Addr) (cap : Nat) (os : List Int) (w : World)
    (hrd : Reads w w.heap.size 1 A os.length (os.map (.int .i64))) (hm : os.length ≤ 9223372036854775807) (ho : ∀ z ∈ os, wfI z) :
    Calls Try.prog 9 #[.slice A os.length cap] w fun e w' => e = .returned (.bool true) ∧ Upd (fun _ => False) w w' := by
  have HX := Lib.hid (And.intro hrd ho)
  clear hrd ho
  have hB0 := Blk.new w 186 (vmC fun _ => false)
  have hB1 := Blk.new (w.alloc (.cells (vmC fun _ => false) 186)) 68 (vmC fun _ => false)
  rw [World.size_alloc] at hB1
  have H0 := Lib.hid (And.intro (hB0.alloc (.cells (vmC fun _ => false) 68)) (And.intro hB1 (((Upd.refl (fun _ => False) w).alloc (.cells (vmC fun _ => false) 186)).alloc (.cells (vmC fun _ => false) 68))))
  clear hB0 hB1
  go_enter Try.func9, Try.ntmps9
  go_wp2
  go_loopw [5] (fun i wr => ∃ (k : Nat), k ≤ os.length ∧ i = .int .i64 (k : Int) ∧ Hid (∃ D : Nat → Bool, D 0 = false ∧ Blk wr w.heap.size 186 (vmC D) ∧ Blk wr (w.heap.size + 1) 68 (vmC D) ∧ Upd (fun _ => False) w wr)) (fun i _ => os.length - (intOf i).toNat)
  case atStart => exact ⟨0, by omega, rfl, fun _ => false, rfl, H0.out⟩
  case round =>
    rename World => wo
    obtain ⟨k, hk, rfl, HR⟩ := hrel
    by_cases hlt : k < os.length
    · have hlt' : (k : Int) < (os.length : Int) := by omega
      obtain ⟨D, hD0, hBv, hBt, hU⟩ := HR.out
      obtain ⟨ob, oo, rfl, hob, hoc⟩ := HX.out.1.start (by omega) (by omega)
      have hget : os[k]? = some os[k] := List.getElem?_eq_getElem hlt
      have hwf := HX.out.2 _ (List.getElem_mem hlt)
      have c0 := (hU.cell (p := ⟨ob, oo + k, none⟩) hob (fun h => h)).trans (hoc k _ (by rw [List.getElem?_map, hget]; rfl))
      have hvs : w.heap.size + 1 < wo.heap.size := hBt.lt
      have hUs := hU.size
      have H1 := Lib.hid (And.intro hD0 (And.intro hBv (And.intro hBt hU)))
      clear hoc hget hBv hBt hU HR H0 hD0
      obtain ⟨hw0, hw1⟩ := hwf
      generalize os[k] = id at *
      have hdv := Int.tmod_def id 2
      have hmo : Int.tmod id 2 = 0 ∨ (Int.tmod id 2 == 0) = false := by
        rcases Decidable.em (Int.tmod id 2 = 0) with h | h
        · exact Or.inl h
        · exact Or.inr (by simpa using h)
      have hm2 := Int.tmod_lt_of_pos id (show (0 : Int) < 2 by decide)
      have hm3 : -2 < Int.tmod id 2 := by
        have := Int.tmod_eq_emod (a := id) (b := 2)
        split at this <;> omega
      have HZ := Lib.hid (show -9223372036854775808 ≤ Int.tdiv id 2 ∧ Int.tdiv id 2 ≤ 9223372036854775807 by omega)
      clear hdv hm2 hm3
      rcases hmo with hmo | hmo
      · go_wp2
        go_loop [7, 8] (fun wn i => ∃ j q : Nat, j ≤ 15 ∧ i = .int .i64 (j : Int) ∧ wn = .int .i64 (q : Int) ∧ Hid (FV D (j + 1) q)) (fun _ i => (intOf i).toNat)
        case atStart => exact ⟨15, 0, by omega, rfl, rfl, Or.inl ⟨rfl, fun i h1 h2 => by omega⟩⟩
        case round =>
          obtain ⟨j, q, hj, rfl, rfl, HF⟩ := hrel
          rcases j with _ | j
          · rw [show ((0 : Nat) : Int) = 0 from rfl]
            have HT := Lib.hid (vm_Take H1.out.2.1)
            go_wp2_with fail
            refine HT.out.mono ?_; rintro e w2 ⟨q', D', er, hVT, rfl, hBv2, hU2⟩
            obtain rfl : q = q' := HF.out.uniq hVT.fv
            have hBt2 := H1.out.2.2.1.upd hU2 (by show ¬ (w.heap.size + 1 = w.heap.size); omega)
            have HU3 := Lib.hid (H1.out.2.2.2.trans' hU2 (fun i hi e => by omega))
            have hD0 := H1.out.1
            have hs2 := hBt2.lt
            have HVT := Lib.hid hVT
            have H2 := Lib.hid (And.intro hBv2 hBt2)
            clear hVT hBv2 hU2 HT
            cases HVT.out with
            | no h =>
              have z0 := H2.out.2.frozen 0
              have y0 := H2.out.2.cell 0
              rw [vmC_at _ (by omega), hD0] at y0
              have hBn := H2.out.2.set_ 0 (.bool false)
              rw [vmC_set D (by omega) false, updB_same hD0] at hBn
              have HBn := Lib.hid (And.intro (H2.out.1.far (p := ⟨w.heap.size + 1, 0, none⟩) (by show w.heap.size ≠ w.heap.size + 1; omega) (.bool false)) (And.intro hBn (HU3.out.setCell (p := ⟨w.heap.size + 1, 0, none⟩) (.inr (Nat.le_succ _)) (.bool false))))
              have HD0 := Lib.hid hD0
              clear hBn hBt2 hD0
              go_wp2
              exact ⟨⟨k + 1, by omega, by go_num, D, HD0.out, HBn.out⟩, by simp [intOf]; omega⟩
            | yes q h1 h2 h3 h4 =>
              have z0 := H2.out.2.frozen q
              have y0 := H2.out.2.cell q
              rw [vmC_at _ (by omega), h3] at y0
              have hBn := H2.out.2.set_ q (.bool true)
              rw [vmC_set D (by omega) true] at hBn
              have HBn := Lib.hid (And.intro (H2.out.1.far (p := ⟨w.heap.size + 1, q, none⟩) (by show w.heap.size ≠ w.heap.size + 1; omega) (.bool true)) (And.intro hBn (HU3.out.setCell (p := ⟨w.heap.size + 1, q, none⟩) (.inr (Nat.le_succ _)) (.bool true))))
              have HD0 := Lib.hid (show updB D q true 0 = false from by unfold updB; rw [if_neg (by omega)]; exact hD0)
              have hq0 : (((q : Nat) : Int) != 0) = true := by simp; omega
              have hq1 : (((q : Nat) : Int) == 0) = false := by simp; omega
              clear hBn hBt2 hD0 h4
              go_wp2
              exact ⟨⟨k + 1, by omega, by go_num, _, HD0.out, HBn.out⟩, by simp [intOf]; omega⟩
          · have y := H1.out.2.2.1.cell (j + 1)
            rw [vmC_at _ (by omega)] at y
            obtain ⟨b, hb⟩ : ∃ b, D (j + 1) = b := ⟨_, rfl⟩
            rw [hb] at y
            have HD := Lib.hid hb
            clear hb
            have hj1 : (1 : Int) ≤ ((j + 1 : Nat) : Int) := by omega
            rcases b with _ | _
            · go_wp2
              go_round
              case rel => exact ⟨j, j + 1, by omega, by go_num, by go_num, FV.step_free hj HD.out⟩
              case measure => simp [intOf]
            · go_wp2
              go_round
              case rel => exact ⟨j, q, by omega, by go_num, rfl, HF.out.step_not (by omega) HD.out⟩
              case measure => simp [intOf]
      · obtain ⟨hz0, hz1⟩ := HZ.out
        have hwz : IntKind.i64.wrap (Int.tdiv id 2) = Int.tdiv id 2 := IntWalk.i64_in _ (by omega)
        have HG := Lib.hid (vm_Give H1.out.2.1 (Int.tdiv id 2))
        have hcs : Int.tdiv id 2 < 1 ∨ (1 ≤ Int.tdiv id 2 ∧ decide (Int.tdiv id 2 ≤ 15) = false) ∨ ∃ z : Nat, Int.tdiv id 2 = (z : Int) ∧ 1 ≤ z ∧ z ≤ 15 := by
          rcases Int.lt_or_le (Int.tdiv id 2) 1 with h | h
          · exact Or.inl h
          · rcases Int.lt_or_le 15 (Int.tdiv id 2) with h2 | h2
            · exact Or.inr (Or.inl ⟨h, by simp; omega⟩)
            · exact Or.inr (Or.inr ⟨(Int.tdiv id 2).toNat, by omega, by omega, by omega⟩)
        have HUB := Lib.hid (fun (w2 : World) (hU2 : Upd (fun x => x = w.heap.size) wo w2) => And.intro (H1.out.2.2.1.upd hU2 (by show ¬ (w.heap.size + 1 = w.heap.size); omega)) (H1.out.2.2.2.trans' hU2 (fun i hi e => by omega)))
        rcases hcs with hc | ⟨hc1, hc2⟩ | ⟨z, hze, hc1, hc2⟩
        · go_wp2_with fail
          refine HG.out.mono ?_; rintro e w2 ⟨D', er, hVG, rfl, hBv2, hU2⟩
          obtain ⟨hBt2, hU3⟩ := HUB.out w2 hU2
          obtain ⟨rfl, rfl⟩ : D' = D ∧ er = 1 := by
            cases hVG with
            | ok k hv h1 h2 hd => omega
            | bad _ => exact ⟨rfl, rfl⟩
          have H2 := Lib.hid (And.intro H1.out.1 (And.intro hBv2 (And.intro hBt2 hU3)))
          clear hVG hBv2 hU2 hBt2 hU3 HG
          go_wp2
          exact ⟨⟨k + 1, by omega, by go_num, D', H2.out⟩, by simp [intOf]; omega⟩
        · go_wp2_with fail
          refine HG.out.mono ?_; rintro e w2 ⟨D', er, hVG, rfl, hBv2, hU2⟩
          obtain ⟨hBt2, hU3⟩ := HUB.out w2 hU2
          obtain ⟨rfl, rfl⟩ : D' = D ∧ er = 1 := by
            cases hVG with
            | ok k hv h1 h2 hd => simp at hc2; omega
            | bad _ => exact ⟨rfl, rfl⟩
          have H2 := Lib.hid (And.intro H1.out.1 (And.intro hBv2 (And.intro hBt2 hU3)))
          clear hVG hBv2 hU2 hBt2 hU3 HG
          go_wp2
          exact ⟨⟨k + 1, by omega, by go_num, D', H2.out⟩, by simp [intOf]; omega⟩
        · have y := H1.out.2.2.1.cell z
          rw [vmC_at _ (by omega)] at y
          obtain ⟨b, hb⟩ : ∃ b, D z = b := ⟨_, rfl⟩
          rw [hb] at y
          have HD := Lib.hid hb
          have HZE := Lib.hid hze
          have hz15 : decide (z ≤ 15) = true := by simpa using hc2
          have hz15' : decide ((z : Int) ≤ 15) = true := by simp; omega
          clear hb
          rcases b with _ | _
          · go_wp2_with fail
            (try rw [hze] at HG)
            refine HG.out.mono ?_; rintro e w2 ⟨D', er, hVG, rfl, hBv2, hU2⟩
            obtain ⟨hBt2, hU3⟩ := HUB.out w2 hU2
            obtain ⟨rfl, rfl⟩ : D' = D ∧ er = 1 := by
              cases hVG with
              | ok k hv h1 h2 hd =>
                obtain rfl : k = z := by omega
                rw [HD.out] at hd; cases hd
              | bad _ => exact ⟨rfl, rfl⟩
            have H2 := Lib.hid (And.intro H1.out.1 (And.intro hBv2 (And.intro hBt2 hU3)))
            clear hVG hBv2 hU2 hBt2 hU3 HG
            go_wp2
            exact ⟨⟨k + 1, by omega, by go_num, D', H2.out⟩, by simp [intOf]; omega⟩
          · go_wp2_with fail
            (try rw [hze] at HG)
            refine HG.out.mono ?_; rintro e w2 ⟨D', er, hVG, rfl, hBv2, hU2⟩
            obtain ⟨hBt2, hU3⟩ := HUB.out w2 hU2
            obtain ⟨rfl, rfl⟩ : D' = updB D z false ∧ er = 0 := by
              cases hVG with
              | ok k hv h1 h2 hd =>
                obtain rfl : k = z := by omega
                exact ⟨rfl, rfl⟩
              | bad h =>
                rcases h with h | ⟨k, hv, h1, h2, hd⟩
                · omega
                · obtain rfl : k = z := by omega
                  rw [HD.out] at hd; cases hd
            have z0 := hBt2.frozen z
            have y2 := hBt2.cell z
            rw [vmC_at _ (by omega), HD.out] at y2
            have hs2 := hBt2.lt
            have hBn := hBt2.set_ z (.bool false)
            rw [vmC_set D (by omega) false] at hBn
            have HBn := Lib.hid (And.intro (show updB D z false 0 = false from by unfold updB; rw [if_neg (by omega)]; exact H1.out.1) (And.intro (hBv2.far (p := ⟨w.heap.size + 1, z, none⟩) (by show w.heap.size ≠ w.heap.size + 1; omega) (.bool false)) (And.intro hBn (hU3.setCell (p := ⟨w.heap.size + 1, z, none⟩) (.inr (Nat.le_succ _)) (.bool false)))))
            clear hVG hBv2 hU2 hBt2 hU3 HG hBn y
            go_wp2
            exact ⟨⟨k + 1, by omega, by go_num, _, HBn.out⟩, by simp [intOf]; omega⟩
    · obtain rfl : k = os.length := by omega
      obtain ⟨D, _, _, _, hU⟩ := HR.out
      have HU := Lib.hid hU
      clear hU HR H0
      go_wp2_with fail
      refine (awake10 _).mono ?_; rintro e w4 ⟨rfl, hU4⟩
      go_wp2
      go_ret
      exact ⟨rfl, HU.out.trans hU4⟩
end Go.Proofs.Ytpodeclkgcgpgaa
