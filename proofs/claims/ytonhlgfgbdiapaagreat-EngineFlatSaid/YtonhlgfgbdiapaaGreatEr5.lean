import Derived.Test.YtonhlgfgbdiapaaGreatEr4
import Derived.Test.YtonhlgfgbdiapaaGreatEg7
/- Both engines over plain memories (EngineFlat). -/
namespace Go.Proofs.YtonhlgfgbdiapaaGreat
set_option linter.unusedVariables false
set_option linter.unusedSimpArgs false
open Go.RowKit Go.Maps
set_option maxRecDepth 100000
section
variable {own own' : Nat → Nat} {c cm d q p2 bs n e mp : Nat} {dev : Int} {w w' : World} {s t t' : Eg} {m : Nat → Int} {way : Value}
theorem eref_accessF (h : ErAt own c w q dev (.pointer (some ⟨p2, 0, none⟩)) (.pointer none) t) (hM : MemAt refK own cm w p2 bs n m) (a : Nat) (ha : a < 18446744073709551616) (wr : Bool) :
    Calls Tryz.prog 74 #[.pointer (some ⟨q, 0, none⟩), .int .u64 (a : Int), .bool wr] w fun x w' => x = .returned (.tuple #[.int .u64 (a : Int), .bool (hasR bs n a 8)]) ∧ w = w' := by
  have HH := Lib.hid (mref_Has hM (a : Int) 8 (by omega) (by omega) (by decide) (by decide))
  obtain ⟨_, k1, k2, _⟩ := h.cells
  have hlt := h.1.lt
  clear h hM
  go_enter Tryz.func74, Tryz.ntmps74
  go_wp2_with fail
  ((with_reducible refine HH.out.mono ?_); rintro x wz ⟨rfl, rfl⟩)
  clear HH
  go_wp2
  go_ret2
  exact ⟨rfl, rfl⟩
theorem eref_messageF (h : ErAt own c w q dev (.pointer (some ⟨p2, 0, none⟩)) (.pointer none) t) (hok : ∀ k, t.rg k < 18446744073709551616) (d : Nat) :
    Calls Tryz.prog 75 #[.pointer (some ⟨q, 0, none⟩)] w fun x w' => x = .returned (.tuple #[.agg #[.int .i64 (msgE t).1, .int .i64 (msgE t).2.1], .bool (msgE t).2.2]) ∧ ∃ own', Step (fun _ => False) own w own' w' := by
  obtain ⟨_, _, k2, _, _, _, _, k8, k9, _, _⟩ := h.cells
  have hlt := h.1.lt
  have hUx : ∀ (x y : Value), Step (fun _ => False) own w (ext own w d) (w.alloc (.cells #[x, y] 47)) ∧ Blk (w.alloc (.cells #[x, y] 47)) w.heap.size 47 #[x, y] := fun x y =>
    ⟨⟨(Upd.refl _ _).alloc _, fun b hb => ext_old _ _ _ hb⟩, Blk.new w _ _⟩
  have hB := (hUx (.int .i64 0) (.int .i64 0)).2
  have x0 := hB.cell 0
  have x1 := hB.cell 1
  simp only [List.getElem?_toArray, List.getElem?_cons_zero, List.getElem?_cons_succ] at x0 x1
  have f0 := hB.frozen 0
  have f1 := hB.frozen 1
  have hlr := hB.lt
  have HX := Lib.hid hUx
  have h40 := hok 40
  have h48 := hok 48
  obtain ⟨A, hA⟩ : ∃ A, t.rg 40 = A := ⟨_, rfl⟩
  obtain ⟨K, hK⟩ : ∃ K, t.rg 48 = K := ⟨_, rfl⟩
  have hme : msgE t = if A = 0 then (0, 0, false) else msgF A K := by unfold msgE; rw [hA, hK]
  rw [hA] at k8 h40
  rw [hK] at k9 h48
  rw [hme]
  clear hB hUx h hok hA hK hme
  by_cases h0 : A = 0
  · have e0 : ((A : Int) == 0) = true := by rw [h0]; rfl
    rw [if_pos h0]
    clear h0
    go_enter Tryz.func75, Tryz.ntmps75
    go_wp2
    refine bodyPost_ret (results_cell_tmp_row rfl _ _ w.heap.size 47 #[.int .i64 0, .int .i64 0] _ rfl (HX.out _ _).2 Tryz.underlying47 rfl (by kernel_rfl)) rfl ?_
    exact ⟨rfl, _, (HX.out _ _).1⟩
  · have e0 : ((A : Int) == 0) = false := by simp; omega
    rw [if_neg h0]
    clear h0
    by_cases h1 : A = 4276092928
    · have e1 : ((A : Int) != 4276092928) = false := by rw [h1]; rfl
      by_cases h2 : K ≤ 15
      · have e2 : decide ((15 : Int) < (K : Int)) = false := by simp; omega
        rw [show msgF A K = (1, 16 + (K : Int), true) from if_pos ⟨h1, h2⟩]
        have hk63 : (K : Int) ≤ 15 := by omega
        clear h1 h2
        go_enter Tryz.func75, Tryz.ntmps75
        go_wp2
        refine bodyPost_ret (results_cell_tmp_row rfl _ _ w.heap.size 47 #[.int .i64 1, .int .i64 (16 + (K : Int))] _ rfl (HX.out _ _).2 Tryz.underlying47 rfl (by kernel_rfl)) rfl ?_
        exact ⟨rfl, _, (HX.out _ _).1⟩
      · have e2 : decide ((15 : Int) < (K : Int)) = true := by simp; omega
        rw [show msgF A K = (0, 0, false) from if_neg (by omega)]
        clear h1 h2
        go_enter Tryz.func75, Tryz.ntmps75
        go_wp2
        refine bodyPost_ret (results_cell_tmp_row rfl _ _ w.heap.size 47 #[.int .i64 0, .int .i64 0] _ rfl (HX.out _ _).2 Tryz.underlying47 rfl (by kernel_rfl)) rfl ?_
        exact ⟨rfl, _, (HX.out _ _).1⟩
    · have e1 : ((A : Int) != 4276092928) = true := by simp; omega
      rw [show msgF A K = (0, 0, false) from if_neg (by omega)]
      clear h1
      go_enter Tryz.func75, Tryz.ntmps75
      go_wp2
      refine bodyPost_ret (results_cell_tmp_row rfl _ _ w.heap.size 47 #[.int .i64 0, .int .i64 0] _ rfl (HX.out _ _).2 Tryz.underlying47 rfl (by kernel_rfl)) rfl ?_
      exact ⟨rfl, _, (HX.out _ _).1⟩
/-- a step of the document's engine over a plain memory -/
theorem eref_StepF (h : ErAt own c w q dev (.pointer (some ⟨p2, 0, none⟩)) (.pointer none) t) (hok : ErOk t) (hM : MemAt refK own cm w p2 bs n m) (hc : c ≠ cm) :
    Calls Tryz.prog 50 #[.pointer (some ⟨q, 0, none⟩)] w fun x w' => x = .returned (.tuple #[.agg #[.int .i64 (stepR bs n t).1, .int .i64 (stepR bs n t).2.1], .bool (stepR bs n t).2.2]) ∧
      ∃ own', Step (fun x => x = c ∨ x = cm) own w own' w' ∧ ErAt own' c w' q dev (.pointer (some ⟨p2, 0, none⟩)) (.pointer none) (stepS bs n t) ∧ MemAt refK own' cm w' p2 bs n (stepM bs n t m) := by
  obtain ⟨a1, ha1⟩ : ∃ a, (t.rg 0 + t.cp) % 18446744073709551616 = a := ⟨_, rfl⟩
  obtain ⟨a2, ha2⟩ : ∃ a, (t.rg 8 + t.cp) % 18446744073709551616 = a := ⟨_, rfl⟩
  have b1 : a1 < 18446744073709551616 := by omega
  have b2 : a2 < 18446744073709551616 := by omega
  obtain ⟨v0, v1⟩ := rdR_bd bs n hM.bd (a1 : Int)
  obtain ⟨v, hv⟩ := Int.eq_ofNat_of_zero_le v0
  have hG : goF bs n t = (hasR bs n (a1 : Int) 8 && hasR bs n (a2 : Int) 8) := by unfold goF; rw [ha1, ha2]
  have key := eref_StepG (c := c) (V := fun i own w => MemAt refK own cm w p2 bs n (if i % 10 = 4 then wrR bs n m (a2 : Int) 8 (v : Int) else m)) (C := (· = cm)) (o1 := hasR bs n (a1 : Int) 8) (o2 := hasR bs n (a2 : Int) 8) (f1 := a1) (f2 := a2) (v := v) (R := fun _ => msgF (t.rg 40) (t.rg 48)) h hok
    (fun hs => {
      hC := hc, b1 := b1, b2 := b2, bv := by omega
      A1 := fun own w he hm => by
        rw [ha1]
        refine (eref_accessF he hm a1 b1 false).mono ?_
        rintro x w' ⟨rfl, rfl⟩
        exact ⟨rfl, own, Step.refl _ _ _, hm⟩
      A2 := fun _ own w he hm => by
        rw [ha2]
        refine (eref_accessF he hm a2 b2 true).mono ?_
        rintro x w' ⟨rfl, rfl⟩
        exact ⟨rfl, own, Step.refl _ _ _, hm⟩
      rd := fun o1 o2 own w hm => by
        refine (mref_Read hm (a1 : Int) 8 (by omega) (by omega) (by decide) (by decide)).mono ?_
        rintro x w' ⟨rfl, rfl⟩
        exact ⟨_, by rw [← hv]; rfl, own, Step.refl _ _ _, hm⟩
      wr := fun o1 o2 own w hm => by
        refine (mref_Write hm (a2 : Int) 8 (v : Int) (by omega) (by omega) (by decide) (by decide) (by omega) (by omega)).mono ?_
        rintro x w' ⟨rfl, own', hS, hm'⟩
        exact ⟨_, rfl, own', hS, hm'⟩
      ms := fun i hi t' ht own w he hm => by
        refine (eref_messageF he (fun k => by rw [ht]; exact hok.rg k) cm).mono ?_
        rintro x w' ⟨rfl, own', hS⟩
        have hme : msgE t' = (if t.rg 40 = 0 then (0, 0, false) else msgF (t.rg 40) (t.rg 48)) := by unfold msgE; rw [ht]
        rw [hme]
        refine ⟨rfl, own', hS.mono (fun _ h => h.elim), ?_⟩
        have := hm.step hS (fun h => h)
        by_cases h4 : t.rg 40 = 0
        · rw [if_pos h4]; exact this
        · rw [if_neg h4, show (i + 10) % 10 = i % 10 by omega]; exact this }) (fun i own w own' w' hm hS => hm.step hS (fun e => hc e.symm)) hM
  refine key.mono ?_
  rintro x w' ⟨rfl, own', hS, hE, hm⟩
  have hnx : nextE t (hasR bs n (a1 : Int) 8) (hasR bs n (a2 : Int) 8) = stepS bs n t := by unfold nextE stepS; rw [hG]
  have hre : resE t (hasR bs n (a1 : Int) 8) (hasR bs n (a2 : Int) 8) (fun _ => msgF (t.rg 40) (t.rg 48)) = stepR bs n t := by
    unfold resE stepR msgE
    rw [hnx]
    by_cases hs : t.st = 1
    · by_cases hx : (stepS bs n t).st = 1 <;> simp [hs, hx]
    · simp [hs]
  have hme : (if whichE t (hasR bs n (a1 : Int) 8) (hasR bs n (a2 : Int) 8) % 10 = 4 then wrR bs n m (a2 : Int) 8 (v : Int) else m) = stepM bs n t m := by
    unfold stepM
    rw [hG, ha1, ha2, hv]
    by_cases hx : t.st = 1 ∧ (hasR bs n (a1 : Int) 8 && hasR bs n (a2 : Int) 8) = true
    · rw [if_pos ((which_mod _ _ _).2 hx), if_pos hx]
    · rw [if_neg (fun h => hx ((which_mod _ _ _).1 h)), if_neg hx]
  rw [hre]
  rw [hnx] at hE
  rw [hme] at hm
  exact ⟨rfl, own', hS, hE, hm⟩
/-- the program's engine is reset -/
theorem eng_Reset (h : EngAt own c w e mp way s) :
    Calls Tryz.prog 51 #[.pointer (some ⟨e, 0, none⟩)] w fun x w' => x = .returned (.tuple #[]) ∧ ∃ own', Step (· = c) own w own' w' ∧ EngAt own' c w' e mp way eg0 := by
  have hmm := @run_makeMap Tryz.prog
  obtain ⟨_, _, c3, c4, z3, z4, hlt⟩ := h.cells
  obtain ⟨rb, dn, rd, hb, ho, hr, hd⟩ := h
  have c2 : w.cell? ⟨e, 2, none⟩ = some (.map (some rb)) := hb.cell 2
  have z2 := hb.frozen 2
  have hne : e ≠ w.heap.size := Nat.ne_of_lt hlt
  have hb4 := ((hb.set_ 2 (.map (some w.heap.size))).set_ 3 (.int .u64 0)).set_ 4 (.int .u64 0)
  have hU := (((Upd.refl (· = e) w).setCell (p := ⟨e, 2, none⟩) (.inl rfl) (.map (some w.heap.size))).setCell (p := ⟨e, 3, none⟩) (.inl rfl) (.int .u64 0)).setCell (p := ⟨e, 4, none⟩) (.inl rfl) (.int .u64 0)
  have hS1 : Step (· = c) own w own _ := ⟨hU.mono (fun i _ hi => by rw [hi]; exact ho), fun _ _ => rfl⟩
  have hsz : (((w.setCell ⟨e, 2, none⟩ (.map (some w.heap.size))).setCell ⟨e, 3, none⟩ (.int .u64 0)).setCell ⟨e, 4, none⟩ (.int .u64 0)).heap.size = w.heap.size := by simp [World.setCell]
  obtain ⟨wm, hwm⟩ : ∃ wm, ((w.setCell ⟨e, 2, none⟩ (.map (some w.heap.size))).setCell ⟨e, 3, none⟩ (.int .u64 0)).setCell ⟨e, 4, none⟩ (.int .u64 0) = wm := ⟨_, rfl⟩
  rw [hwm] at hb4 hU hS1 hsz
  have hM := MapB.made wm Tryz.prog 23 encU
  rw [hsz] at hM
  have hS2 : Step (· = c) own wm (ext own wm c) (wm.alloc (.map #[] 0)) := ⟨(Upd.refl _ _).alloc _, fun b hb => ext_old _ _ _ hb⟩
  have hb5 := Blk.upd hb4 ((Upd.refl (fun _ => False) wm).alloc (.map #[] 0)) (fun h => h)
  have hE : EngAt (ext own wm c) c (wm.alloc (.map #[] 0)) e mp way eg0 := by
    refine ⟨w.heap.size, dn, rd, hb5, by rw [ext_old _ _ _ (by rw [hsz]; exact hlt)]; exact ho, ⟨ext_new _ _ _ (by rw [hsz]; exact Nat.le_refl _), [], hM, fun k => rfl⟩, ?_⟩
    rcases hd with h | ⟨h1, fb, h2, h3, hfo, hfm⟩
    · exact .inl h
    · refine .inr ⟨h1, fb, h2, Nat.ne_of_lt hfm.lt, ?_, ?_⟩
      · show ext own wm c fb = c
        rw [ext_old _ _ _ (by rw [hsz]; exact hfm.lt)]; exact hfo
      · exact (hfm.upd hU (hb.ne_map hfm)).upd ((Upd.refl (fun _ => False) wm).alloc _) (fun h => h)
  have HF := Lib.hid (And.intro (hS1.trans hS2) hE)
  rw [← hwm] at HF
  clear hS1 hM hb4 hb5 hU hS2 hE hr hd hb ho hsz hwm
  go_enter Tryz.func51, Tryz.ntmps51
  go_wp2
  go_end0
  exact ⟨rfl, _, HF.out⟩
end
end Go.Proofs.YtonhlgfgbdiapaaGreat
