import Derived.Test.YtpodeclkgcgpgaaShref
/- The document's shootdowns: Post, Serve. -/
namespace Go.Proofs.Ytpodeclkgcgpgaa
set_option linter.unusedVariables false
set_option linter.unusedSimpArgs false
open Go.RowKit
set_option maxRecDepth 100000

theorem row_snoc {own : Nat → Nat} {d : Nat} {w : World} {v : Value} {l : List Int} {x : Int} (h : Rw 3 1 own d w v (l.length + 1) (l.map (.int .i64) ++ [.int .i64 x])) : Rw 3 1 own d w v (l ++ [x]).length ((l ++ [x]).map (.int .i64)) := by
  rw [List.length_append, List.map_append]; exact h
section
variable {own own' : Nat → Nat} {c d hp : Nat} {w w' : World} {bs : List Nat}
set_option maxHeartbeats 4000000 in
theorem href_Post (h : HAt own c d w hp bs) (hcd : c ≠ d) (v : Nat) (hv : 1 ≤ v ∧ v ≤ 15) :
    Calls Try.prog 63 #[.pointer (some ⟨hp, 0, none⟩), .int .i64 (v : Int)] w fun e w' => e = .returned (.tuple #[]) ∧ ∃ own', Step (· = c) own w own' w' ∧ HAt own' c d w' hp (postL bs v) := by
  have hl8 := h.2.2
  have hb0 : 0 < bs.length := h.2.1
  obtain ⟨q, _, c0, _, _, hlh, _⟩ := h.row 0 bs[0] (List.getElem?_eq_getElem hb0)
  have hd1 : decide ((v : Int) < 1) = false := by simp; omega
  have hd2 : decide ((15 : Int) < (v : Int)) = false := by simp; omega
  have hv15 : (v : Int) ≤ 15 := by omega
  have H0 := Lib.hid h
  obtain ⟨ie, hie, hiz, his, hib⟩ := info_parts info_intS
  have HI := Lib.hid (And.intro hie (And.intro hiz (And.intro his hib)))
  have HV := Lib.hid hv
  clear h hie hiz his hib hv
  go_enter Try.func63, Try.ntmps63
  go_wp2
  go_loopw [4] (fun i wr => ∃ (k : Nat), k ≤ bs.length ∧ i = .int .i64 (k : Int) ∧ Hid (∃ own', Step (· = c) own w own' wr ∧ HAt own' c d wr hp (postTo bs v k) ∧ wr.cell? ⟨hp, 0, none⟩ = some (.slice (some ⟨q, 0, none⟩) bs.length bs.length))) (fun i _ => bs.length - (intOf i).toNat)
  case atStart => exact ⟨0, by omega, rfl, own, Step.refl _ _ _, H0.out, c0⟩
  case round =>
    rename World => wo
    obtain ⟨k, hk, rfl, HR⟩ := hrel
    obtain ⟨own2, hS, hH, hc⟩ := HR.out
    by_cases hlt : k < bs.length
    · have hlt' : (k : Int) < (bs.length : Int) := by omega
      obtain ⟨b, hb⟩ : ∃ b, bs[k]? = some b := ⟨_, List.getElem?_eq_getElem hlt⟩
      obtain ⟨q', rv, x0, xv, zv, lh, lq, oq, oh, hrow⟩ := hH.row k b (by rw [postTo_at bs v k hlt]; exact hb)
      have e := x0.symm.trans hc
      rw [postTo_len] at e x0
      cases e
      obtain ⟨A, cap, rfl, hcap, hf⟩ := hrow.form
      have hL16 := dueTo_len b 16
      have H1 := Lib.hid (And.intro hS (And.intro hH hb))
      have HF := Lib.hid hf
      have hfin := ins_due b v HV.out
      obtain ⟨L, hL⟩ : ∃ L, dueL b = L := ⟨_, rfl⟩
      rw [show dueTo b 16 = L from hL] at hL16
      rw [hL] at HF xv hcap hfin
      have HFN := Lib.hid hfin
      clear hL hS hH hb hrow hf HR hfin x0
      go_wp2
      go_loopw [5, 6, 7] (fun s n i wr => ∃ (j : Nat), j ≤ L.length ∧ i = .int .i64 (j : Int) ∧ n = .bool (insF (v : Int) (L.take j)).2 ∧ Hid (∃ own', Step (· = 0) (up1 own2 wo) wo own' wr ∧ Rw 3 1 own' 0 wr s (insF (v : Int) (L.take j)).1.length ((insF (v : Int) (L.take j)).1.map (.int .i64)))) (fun _ _ i _ => L.length - (intOf i).toNat)
      case atStart => exact ⟨0, by omega, rfl, rfl, _, Step.refl _ _ _, Rw.nil _ _ _ _ _⟩
      case round =>
        rename World => wr
        obtain ⟨j, hj, rfl, rfl, HL⟩ := hrel
        obtain ⟨own3, hS3, hR3⟩ := HL.out
        have hUp := up1_upd hS3
        have cw0 : wr.cell? ⟨hp, 0, none⟩ = some (.slice (some ⟨q, 0, none⟩) bs.length bs.length) := (hUp.cell (p := ⟨hp, 0, none⟩) lh (fun h => h)).trans hc
        have cwq : wr.cell? ⟨q, k, none⟩ = some (.slice A L.length cap) := (hUp.cell (p := ⟨q, k, none⟩) lq (fun h => h)).trans xv
        obtain ⟨bi, hbi⟩ : ∃ bi, (insF (v : Int) (L.take j)).2 = bi := ⟨_, rfl⟩
        obtain ⟨sl, hsl⟩ : ∃ sl, (insF (v : Int) (L.take j)).1 = sl := ⟨_, rfl⟩
        have hpair : insF (v : Int) (L.take j) = (sl, bi) := by rw [← hbi, ← hsl]
        have hslen : sl.length ≤ 64 := by
          have := insF_len (v : Int) (L.take j)
          rw [hsl, List.length_take] at this; omega
        rw [hbi]
        rw [hsl] at hR3
        by_cases hlj : j < L.length
        · have hlj' : (j : Int) < (L.length : Int) := by omega
          obtain ⟨g, o, rfl, _, hgl, _, hgc⟩ := HF.out (by omega)
          have hget : L[j]? = some L[j] := List.getElem?_eq_getElem hlj
          have hgcj := hgc j _ (by rw [List.getElem?_map, hget]; rfl)
          have cwx := (hUp.cell (p := ⟨g, o + j, none⟩) hgl (fun h => h)).trans hgcj
          have htk : L.take (j + 1) = L.take j ++ [L[j]] := by rw [List.take_add_one, hget]; rfl
          generalize L[j] = x at *
          have hins : insF (v : Int) (L.take (j + 1)) = insS (v : Int) (sl, bi) x := by rw [htk, insF_snoc, hpair]
          have HSL := Lib.hid hslen
          have H3 := Lib.hid (And.intro hS3 (And.intro hR3 hUp))
          have HIN := Lib.hid hins
          clear hS3 hR3 hUp hbi hsl hpair hget hgc htk hins HL hslen
          have hcs : (insS (v : Int) (sl, bi) x = (sl ++ [x], bi) ∧ (bi = true ∨ (bi = false ∧ x < (v : Int)))) ∨ (bi = false ∧ x = (v : Int) ∧ insS (v : Int) (sl, bi) x = (sl ++ [x], true)) ∨ (bi = false ∧ (v : Int) < x ∧ insS (v : Int) (sl, bi) x = (sl ++ [(v : Int)] ++ [x], true)) := by
            unfold insS
            cases bi with
            | true => exact Or.inl ⟨by simp, Or.inl rfl⟩
            | false =>
              rcases Int.lt_trichotomy x (v : Int) with h | h | h
              · exact Or.inl ⟨by rw [if_neg (by simp; omega)], Or.inr ⟨rfl, h⟩⟩
              · subst h; exact Or.inr (Or.inl ⟨rfl, rfl, by simp⟩)
              · exact Or.inr (Or.inr ⟨rfl, h, by rw [if_pos ⟨rfl, by omega⟩, if_pos h]⟩)
          rcases hcs with ⟨hi, hcs⟩ | ⟨rfl, rfl, hi⟩ | ⟨rfl, hgt, hi⟩
          · have HS := Lib.hid (HIN.out.trans hi)
            clear HIN hi
            rcases hcs with rfl | ⟨rfl, hxv⟩
            all_goals
              go_wp2_with ((with_reducible show wpList _ _ _ ((⟨some 79, _, _, _, _, _⟩ : Oper) :: _) _ _); refine wpList_append_rw rfl (.tmp 67) (.tmp 78) _ rfl 3 ie _ 1 8 Try.underlying45 HI.out.1 HI.out.2.1 HI.out.2.2.1 HI.out.2.2.2 rfl (by omega) (own := own3) (d := 0) u5 _ _ rfl (H3.out.2.1.step (step_allocS own3 wr (.cells #[.int .i64 x] 3)) (fun h => h)) (wr.heap.size + 1) (some ⟨wr.heap.size, 0, none⟩) 1 1 [.int .i64 x] rfl ⟨rfl, fun _ => ⟨_, rfl, Nat.lt_succ_self _, cell_one_new _ _ _⟩⟩ (by simp [Value.oneCell']) (by unfold maxLen; have := HSL.out; omega) (by have := HSL.out; omega) ?_)
              intro v4 w4 hst4 hrow4
              have hs4 := H3.out.1.trans (((step_allocS own3 wr (.cells #[.int .i64 x] 3)).mono (C' := (· = 0)) (fun _ h => h.elim)).trans hst4)
              have H4 := Lib.hid (And.intro hs4 (row_snoc hrow4))
              clear hst4 hrow4 hs4 H3
              go_wp2
              exact ⟨⟨j + 1, by omega, by go_num, by rw [HS.out], _, by rw [HS.out]; exact H4.out⟩, by simp [intOf]; omega⟩
          · have HS := Lib.hid (HIN.out.trans hi)
            have hnl : ¬ (v : Int) < (v : Int) := by omega
            clear HIN hi
            go_wp2_with ((with_reducible show wpList _ _ _ ((⟨some 79, _, _, _, _, _⟩ : Oper) :: _) _ _); refine wpList_append_rw rfl (.tmp 67) (.tmp 78) _ rfl 3 ie _ 1 8 Try.underlying45 HI.out.1 HI.out.2.1 HI.out.2.2.1 HI.out.2.2.2 rfl (by omega) (own := own3) (d := 0) u5 _ _ rfl (H3.out.2.1.step (step_allocS own3 wr (.cells #[.int .i64 (v : Int)] 3)) (fun h => h)) (wr.heap.size + 1) (some ⟨wr.heap.size, 0, none⟩) 1 1 [.int .i64 (v : Int)] rfl ⟨rfl, fun _ => ⟨_, rfl, Nat.lt_succ_self _, cell_one_new _ _ _⟩⟩ (by simp [Value.oneCell']) (by unfold maxLen; have := HSL.out; omega) (by have := HSL.out; omega) ?_)
            intro v4 w4 hst4 hrow4
            have hs4 := H3.out.1.trans (((step_allocS own3 wr (.cells #[.int .i64 (v : Int)] 3)).mono (C' := (· = 0)) (fun _ h => h.elim)).trans hst4)
            have H4 := Lib.hid (And.intro hs4 (row_snoc hrow4))
            clear hst4 hrow4 hs4 H3
            go_wp2
            exact ⟨⟨j + 1, by omega, by go_num, by rw [HS.out], _, by rw [HS.out]; exact H4.out⟩, by simp [intOf]; omega⟩
          · have HS := Lib.hid (HIN.out.trans hi)
            have hge : (v : Int) ≤ x := by omega
            clear HIN hi
            go_wp2_with ((with_reducible show wpList _ _ _ ((⟨some 66, _, _, _, _, _⟩ : Oper) :: _) _ _); refine wpList_append_rw rfl (.tmp 63) (.tmp 65) _ rfl 3 ie _ 1 8 Try.underlying45 HI.out.1 HI.out.2.1 HI.out.2.2.1 HI.out.2.2.2 rfl (by omega) (own := own3) (d := 0) u5 _ _ rfl (H3.out.2.1.step (step_allocS own3 wr (.cells #[.int .i64 (v : Int)] 3)) (fun h => h)) (wr.heap.size + 1) (some ⟨wr.heap.size, 0, none⟩) 1 1 [.int .i64 (v : Int)] rfl ⟨rfl, fun _ => ⟨_, rfl, Nat.lt_succ_self _, cell_one_new _ _ _⟩⟩ (by simp [Value.oneCell']) (by unfold maxLen; have := HSL.out; omega) (by have := HSL.out; omega) ?_)
            intro v4 w4 hst4 hrow4
            have hs4 := H3.out.1.trans (((step_allocS own3 wr (.cells #[.int .i64 (v : Int)] 3)).mono (C' := (· = 0)) (fun _ h => h.elim)).trans hst4)
            have hU4 := up1_upd hs4
            have dw0 : w4.cell? ⟨hp, 0, none⟩ = some (.slice (some ⟨q, 0, none⟩) bs.length bs.length) := (hU4.cell (p := ⟨hp, 0, none⟩) lh (fun h => h)).trans hc
            have dwq : w4.cell? ⟨q, k, none⟩ = some (.slice (some ⟨g, o, none⟩) L.length cap) := (hU4.cell (p := ⟨q, k, none⟩) lq (fun h => h)).trans xv
            have dwx := (hU4.cell (p := ⟨g, o + j, none⟩) hgl (fun h => h)).trans hgcj
            have H4 := Lib.hid (And.intro hs4 (row_snoc hrow4))
            clear hst4 hrow4 hs4 H3 hU4 cw0 cwq cwx
            generalize ext own3 (wr.alloc (.cells #[.int .i64 (v : Int)] 3)) 0 = own4 at *
            have hsl2 : (sl ++ [(v : Int)]).length ≤ 65 := by rw [List.length_append]; have := HSL.out; simp; omega
            have HSL2 := HSL
            clear HSL
            have HSL := Lib.hid hsl2
            clear hsl2
            go_wp2_with ((with_reducible show wpList _ _ _ ((⟨some 79, _, _, _, _, _⟩ : Oper) :: _) _ _); refine wpList_append_rw rfl (.tmp 67) (.tmp 78) _ rfl 3 ie _ 1 8 Try.underlying45 HI.out.1 HI.out.2.1 HI.out.2.2.1 HI.out.2.2.2 rfl (by omega) (own := own4) (d := 0) v4 _ _ rfl (H4.out.2.step (step_allocS own4 w4 (.cells #[.int .i64 x] 3)) (fun h => h)) (w4.heap.size + 1) (some ⟨w4.heap.size, 0, none⟩) 1 1 [.int .i64 x] rfl ⟨rfl, fun _ => ⟨_, rfl, Nat.lt_succ_self _, cell_one_new _ _ _⟩⟩ (by simp [Value.oneCell']) (by unfold maxLen; have := HSL.out; omega) (by have := HSL.out; omega) ?_)
            intro v5 w5 hst5 hrow5
            have hs5 := H4.out.1.trans (((step_allocS own4 w4 (.cells #[.int .i64 x] 3)).mono (C' := (· = 0)) (fun _ h => h.elim)).trans hst5)
            have hrow6 : Rw 3 1 (ext own4 (w4.alloc (.cells #[.int .i64 x] 3)) 0) 0 w5 v5 (sl ++ [(v : Int)] ++ [x]).length ((sl ++ [(v : Int)] ++ [x]).map (.int .i64)) := by simpa using hrow5
            have H5 := Lib.hid (And.intro hs5 hrow6)
            clear hst5 hrow5 hrow6 hs5 H4
            go_wp2
            exact ⟨⟨j + 1, by omega, by go_num, by rw [HS.out], _, by rw [HS.out]; exact H5.out⟩, by simp [intOf]; omega⟩
        · obtain rfl : j = L.length := by omega
          rw [List.take_length] at hpair
          have hfin := HFN.out
          rw [hpair] at hfin
          have HSL := Lib.hid hslen
          have H3 := Lib.hid (And.intro hS3 hR3)
          clear hS3 hR3 hbi hsl HL hslen hpair hlj
          cases bi with
          | true =>
            have hsd : sl = dueL (orV b v) := hfin
            have hlay := H1.out.2.1.lay (k := k) (b := orV b v) hcd hUp (by rw [postTo_len]; exact hlt) (by rw [← hsd]; exact up1_row H3.out.1 H3.out.2 d) q (by rw [postTo_len]; exact hc)
            rw [postTo_succ bs v k b H1.out.2.2, postTo_len] at hlay
            obtain ⟨A5, cap5, hv5, _⟩ := H3.out.2.form
            have zw := (hUp.frozen' (p := ⟨q, k, none⟩) lq (fun h => h)).trans zv
            have lw : q < wr.heap.size := Nat.lt_of_lt_of_le lq hUp.size
            have H4 := Lib.hid (And.intro (H1.out.1.trans hlay.1) hlay.2)
            subst hv5
            clear hsd hlay H3 hfin hUp
            go_wp2
            exact ⟨⟨k + 1, by omega, by go_num, _, H4.out⟩, by simp [intOf]; omega⟩
          | false =>
            have hsd : sl ++ [(v : Int)] = dueL (orV b v) := hfin
            go_wp2_with ((with_reducible show wpList _ _ _ ((⟨some 85, _, _, _, _, _⟩ : Oper) :: _) _ _); refine wpList_append_rw rfl (.tmp 82) (.tmp 84) _ rfl 3 ie _ 1 8 Try.underlying45 HI.out.1 HI.out.2.1 HI.out.2.2.1 HI.out.2.2.2 rfl (by omega) (own := own3) (d := 0) u5 _ _ rfl (H3.out.2.step (step_allocS own3 wr (.cells #[.int .i64 (v : Int)] 3)) (fun h => h)) (wr.heap.size + 1) (some ⟨wr.heap.size, 0, none⟩) 1 1 [.int .i64 (v : Int)] rfl ⟨rfl, fun _ => ⟨_, rfl, Nat.lt_succ_self _, cell_one_new _ _ _⟩⟩ (by simp [Value.oneCell']) (by unfold maxLen; have := HSL.out; omega) (by have := HSL.out; omega) ?_)
            intro v4 w4 hst4 hrow4
            have hs4 := H3.out.1.trans (((step_allocS own3 wr (.cells #[.int .i64 (v : Int)] 3)).mono (C' := (· = 0)) (fun _ h => h.elim)).trans hst4)
            have hU4 := up1_upd hs4
            have dw0 : w4.cell? ⟨hp, 0, none⟩ = some (.slice (some ⟨q, 0, none⟩) bs.length bs.length) := (hU4.cell (p := ⟨hp, 0, none⟩) lh (fun h => h)).trans hc
            have dwq : w4.cell? ⟨q, k, none⟩ = some (.slice A L.length cap) := (hU4.cell (p := ⟨q, k, none⟩) lq (fun h => h)).trans xv
            have hr4 := row_snoc hrow4
            have hlay := H1.out.2.1.lay (k := k) (b := orV b v) hcd hU4 (by rw [postTo_len]; exact hlt) (by rw [← hsd]; exact up1_row hs4 hr4 d) q (by rw [postTo_len]; exact hc)
            rw [postTo_succ bs v k b H1.out.2.2, postTo_len] at hlay
            obtain ⟨A5, cap5, hv5, _⟩ := hrow4.form
            have zw := (hU4.frozen' (p := ⟨q, k, none⟩) lq (fun h => h)).trans zv
            have lw : q < w4.heap.size := Nat.lt_of_lt_of_le lq hU4.size
            have H4 := Lib.hid (And.intro (H1.out.1.trans hlay.1) hlay.2)
            subst hv5
            clear hsd hlay H3 hfin hUp hst4 hrow4 hr4 hs4 hU4 cw0 cwq
            go_wp2
            exact ⟨⟨k + 1, by omega, by go_num, _, H4.out⟩, by simp [intOf]; omega⟩
    · obtain rfl : k = bs.length := by omega
      rw [postTo_all] at hH
      have H2 := Lib.hid (And.intro hS hH)
      clear hS hH HR
      go_wp2
      go_end0
      exact ⟨rfl, own2, H2.out⟩
set_option maxHeartbeats 4000000 in
theorem href_Serve {tc td tp room : Nat} {l : List Tr} (h : HAt own c d w hp bs) (hT : TrefAt own tc td w tp room l) (hcd : c ≠ d) (hne : c ≠ tc ∧ c ≠ td ∧ d ≠ tc ∧ tc ≠ td) (k b : Nat) (hk : bs[k]? = some b) :
    Calls Try.prog 65 #[.pointer (some ⟨hp, 0, none⟩), .int .i64 (k : Int), .pointer (some ⟨tp, 0, none⟩)] w fun e w' => e = .returned (.int .i64 ((dueL b).length : Int)) ∧ ∃ own', Step (fun x => x = c ∨ x = tc) own w own' w' ∧ HAt own' c d w' hp (servB bs k b) ∧ TrefAt own' tc td w' tp room (flushAll l (dueL b)) := by
  have hl8 := h.2.2
  have hlt := (List.getElem?_eq_some_iff.1 hk).1
  have hlt' : (k : Int) < (bs.length : Int) := by omega
  have hk0 : decide ((k : Int) < 0) = false := by simp
  have hkn : decide (bs.length ≤ k) = false := by simp; omega
  obtain ⟨q, rv, c0, cv, _, lh, lq, oq, oh, hrow⟩ := h.row k b hk
  obtain ⟨A, cap, rfl, hcap, hf⟩ := hrow.form
  have hL16 := dueTo_len b 16
  have hsv : servB bs k b = if (dueL b).length = 0 then bs else bs.set k 0 := rfl
  have H0 := Lib.hid (And.intro (And.intro h (And.intro hT hk)) hrow)
  obtain ⟨L, hL⟩ : ∃ L, dueL b = L := ⟨_, rfl⟩
  rw [show dueTo b 16 = L from hL] at hL16
  rw [hL] at cv hcap hsv
  rw [hL]
  have HLE := Lib.hid hL
  have HSV := Lib.hid hsv
  clear h hT hk hL hsv hrow hf
  go_enter Try.func65, Try.ntmps65
  go_wp2
  go_loopw [8] (fun i wr => ∃ (j : Nat), j ≤ L.length ∧ i = .int .i64 (j : Int) ∧ Hid (∃ own', Step (· = tc) own w own' wr ∧ HAt own' c d wr hp bs ∧ TrefAt own' tc td wr tp room (flushAll l (L.take j)))) (fun i _ => L.length - (intOf i).toNat)
  case atStart => exact ⟨0, by omega, rfl, own, Step.refl _ _ _, H0.out.1.1, H0.out.1.2.1⟩
  case round =>
    rename World => wr
    obtain ⟨j, hj, rfl, HL⟩ := hrel
    obtain ⟨own2, hS, hH, hT⟩ := HL.out
    obtain ⟨q2, rv2, x0, xv, zv, lh2, lq2, oq2, oh2, hrow2⟩ := hH.row k b H0.out.1.2.2
    have e0 := (hS.upd.cell (p := ⟨hp, 0, none⟩) lh (by show ¬ own hp = tc; rw [oh]; exact hne.1)).trans c0
    have e := x0.symm.trans e0
    cases e
    have ev := (hS.upd.cell (p := ⟨q, k, none⟩) lq (by show ¬ own q = tc; rw [oq]; exact hne.1)).trans cv
    have e := xv.symm.trans ev
    cases e
    by_cases hlj : j < L.length
    · have hlj' : (j : Int) < (L.length : Int) := by omega
      have hget : L[j]? = some L[j] := List.getElem?_eq_getElem hlj
      rw [HLE.out] at hrow2
      obtain ⟨A', cap', he, _, hf2⟩ := hrow2.form
      cases he
      obtain ⟨g, o, rfl, _, _, _, hc⟩ := hf2 (by omega)
      have cj := hc j _ (by rw [List.getElem?_map, hget]; rfl)
      have htk : L.take (j + 1) = L.take j ++ [L[j]] := by rw [List.take_add_one, hget]; rfl
      generalize L[j] = id at *
      have HFl := Lib.hid (tref_Flush hT hne.2.2.2 id)
      have HTK := Lib.hid htk
      have H2 := Lib.hid (And.intro hS hH)
      clear hget hf2 hc htk hS hH hT hrow2 HL e0 ev
      go_wp2_with fail
      refine HFl.out.mono ?_; rintro e w3 ⟨rfl, own3, hS3, hT3⟩
      rw [show flushT (flushAll l (L.take j)) id = flushAll l (L.take (j + 1)) from by rw [HTK.out, flushAll_snoc]] at hT3
      have H3 := Lib.hid (And.intro (H2.out.1.trans hS3) (And.intro (H2.out.2.step hS3 hne.1 hne.2.2.1) hT3))
      clear hS3 hT3 HFl H2
      go_wp2
      exact ⟨⟨j + 1, by omega, by go_num, own3, H3.out⟩, by simp [intOf]; omega⟩
    · obtain rfl : j = L.length := by omega
      rw [List.take_length] at hT
      have hlay := hH.lay (k := k) (b := 0) hcd (Upd.refl _ _) hlt (v2 := .slice none 0 0) (by rw [dueL_zero]; exact Rw.nil _ _ _ _ _) q x0
      have hfin : HAt (ext own2 wr d) c d (wr.setCell ⟨q, k, none⟩ (.slice none 0 0)) hp (servB bs k b) := by
        rw [HSV.out]
        by_cases h0 : L.length = 0
        · rw [if_pos h0]
          refine hlay.2.1.same (by rw [List.length_set]) (fun i x y hx hy => ?_)
          rw [List.getElem?_set] at hx
          by_cases ei : k = i
          · subst ei
            rw [if_pos rfl, if_pos hlt] at hx
            cases hx
            rw [H0.out.1.2.2] at hy; cases hy
            rw [HLE.out, dueL_zero]; exact (List.eq_nil_of_length_eq_zero h0).symm
          · rw [if_neg ei] at hx
            rw [hx] at hy; cases hy; rfl
        · rw [if_neg h0]; exact hlay.2.1
      have H2 := Lib.hid (And.intro ((hS.mono (C' := fun x => x = c ∨ x = tc) (fun _ h => Or.inr h)).trans (hlay.1.mono (fun _ h => Or.inl h))) (And.intro hfin (hT.step hlay.1 (fun e => hne.1 e.symm) (fun e => hne.2.1 e.symm))))
      clear hS hH hT hrow2 HL hlay hfin
      go_wp2
      go_ret
      exact ⟨rfl, _, H2.out⟩
end
end Go.Proofs.Ytpodeclkgcgpgaa
