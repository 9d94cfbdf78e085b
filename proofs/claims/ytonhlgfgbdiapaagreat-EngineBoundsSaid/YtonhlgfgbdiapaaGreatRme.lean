import Derived.Test.YtonhlgfgbdiapaaGreatRmd
/- citadellaw08.awake. -/
namespace Go.Proofs.YtonhlgfgbdiapaaGreat
set_option linter.unusedVariables false
set_option linter.unusedSimpArgs false
open Go.RowKit
set_option maxRecDepth 100000
/-- what awake's memory holds -/
def awM : Nat → Int := cellsM 2 (fun _ => 0) [(1, 77)]
theorem awM_eq : awM = put (fun _ => 0) 8 8 77 := rfl
theorem aw_rd : rdR 0 2 awM 8 8 = (77, true) := by
  unfold rdR
  rw [if_pos (by decide), awM_eq]
  show (num (put (fun _ => 0) 8 8 77) 8 8, true) = _
  rw [num_put]
  rfl
def awS : Eg := begE 8 4096 8
theorem aw_fit : fitJ 0 2 8 4096 0 = true := by decide
theorem aw_st : awS.st = 1 := by unfold awS; rw [begE_st]; decide
theorem aw_step : (stepS 0 2 awS).st = 2 := by
  show (stepS 0 2 (begE 8 4096 8)).st = 2
  rw [(run_go (RunE.beg 8 4096 8) aw_st (j := 0) (by rw [begE_eq]) aw_fit).1]
  rfl
theorem aw_mem : rdR 0 2 (stepM 0 2 awS awM) 4096 8 = (77, true) := by
  have h := run_mem (base := 0) (n := 2) awM (RunE.beg 8 4096 8) aw_st (j := 0) (by rw [begE_eq]) aw_fit
  rw [show stepM 0 2 awS awM = _ from h]
  rw [show (((8 + 8 * 0) % 18446744073709551616 : Nat) : Int) = 8 from rfl, show (((4096 + 8 * 0) % 18446744073709551616 : Nat) : Int) = 4096 from rfl, aw_rd]
  unfold wrR rdR
  rw [if_pos (by decide), if_pos (by decide)]
  show (num (put awM 4096 8 77) 4096 8, true) = _
  rw [num_put]
  rfl
set_option maxHeartbeats 2000000 in
theorem awake08 (w : World) : Calls Tryz.prog 19 #[] w fun x w' => x = .returned (.bool true) ∧ Upd (fun _ => False) w w' := by
  have hS0 : Step (fun _ => False) (fun _ => 0) w (ext (fun _ => 0) w 9) (w.alloc (.cells #[.int .i64 1, .int .u64 77] 26)) := ⟨(Upd.refl _ _).alloc _, fun b hb => ext_old _ _ _ hb⟩
  have hB0 := Blk.new w 26 #[.int .i64 1, .int .u64 77]
  have hC : CellsAt (w.alloc (.cells #[.int .i64 1, .int .u64 77] 26)) (.slice (some ⟨w.heap.size, 0, none⟩) 1 1) [(1, 77)] := by
    refine ⟨_, 1, rfl, fun _ => ⟨w.heap.size, 0, rfl, hB0.lt, fun k x hx => ?_⟩⟩
    have hk : k = 0 := by
      rcases Nat.eq_zero_or_pos k with h | h
      · exact h
      · rw [List.getElem?_eq_none (by simp; omega)] at hx; cases hx
    subst hk
    cases hx
    exact ⟨hB0.cell 0, hB0.cell 1⟩
  have hMm := law_MemoryC 2 (by decide) (by decide) (ext (fun _ => 0) w 9) 1 2 (by decide) _ _ _ hC (by decide) (by intro x hx; simp at hx; subst hx; decide)
  rw [show ((2 : Nat) : Int) = 2 from rfl] at hMm
  have HM := Lib.hid hMm
  have HS0 := Lib.hid hS0
  clear hS0 hB0 hC hMm
  go_enter Tryz.func19, Tryz.ntmps19
  go_wp2_with fail
  ((with_reducible refine HM.out.mono ?_); rintro x w1 ⟨p1, p2, own1, rfl, hS1, hm1, hm2⟩)
  have hS2 : Step (fun _ => False) own1 w1 (ext own1 w1 9) (w1.alloc (.cells #[.pointer (some ⟨p1, 0, none⟩), .pointer (some ⟨p2, 0, none⟩)] 34)) := ⟨(Upd.refl _ _).alloc _, fun b hb => ext_old _ _ _ hb⟩
  have HF := Lib.hid (eng_Flat (ext own1 w1 9) 3 p1 (w1.alloc (.cells #[.pointer (some ⟨p1, 0, none⟩), .pointer (some ⟨p2, 0, none⟩)] 34)))
  have H1 := Lib.hid (And.intro ((HS0.out.trans hS1).trans hS2) (And.intro (hm1.step hS2 (fun h => h)) (And.intro (hm2.step hS2 (fun h => h)) (And.intro (Blk.new w1 34 #[.pointer (some ⟨p1, 0, none⟩), .pointer (some ⟨p2, 0, none⟩)]) (show ext own1 w1 9 w1.heap.size = 9 from ext_new _ _ _ (Nat.le_refl _))))))
  clear hS1 hm1 hm2 hS2 HM HS0
  go_wp2_with fail
  ((with_reducible refine HF.out.mono ?_); rintro x w3 ⟨e, own3, rfl, hS3, hE3⟩)
  have hc := hS3.blk H1.out.2.2.2.1 H1.out.2.2.2.2 (fun h => h)
  have hFE : FE w own3 w3 e p1 p2 0 2 eg0 awM awM := ⟨(H1.out.1.trans hS3).mono (fun _ h => h.elim), H1.out.2.1.step hS3 (fun h => h), H1.out.2.2.1.step hS3 (fun h => h), hE3, EgOk.init⟩
  have x0 := hc.1.cell 0
  simp only [List.getElem?_toArray, List.getElem?_cons_zero] at x0
  have HT := Lib.hid hc
  have HFE := Lib.hid hFE
  have HW := Lib.hid (hFE.writeL 0 0 rfl (by decide) 8 (by decide) (by decide) 8 8 rfl (by decide) true (by decide))
  clear hS3 hE3 hc hFE H1 HF
  generalize w1.heap.size = xb at *
  go_wp2_with fail
  ((with_reducible refine HW.out.mono ?_); rintro x w4 ⟨rfl, own4, hS4, hFE⟩)
  clear x0
  have hc := hS4.blk HT.out.1 HT.out.2 (by decide)
  have x0 := hc.1.cell 0
  simp only [List.getElem?_toArray, List.getElem?_cons_zero] at x0
  clear HT HW HFE hS4
  have HT := Lib.hid hc
  have HW := Lib.hid (hFE.writeL 8 8 rfl (by decide) 8 (by decide) (by decide) 4096 4096 rfl (by decide) true (by decide))
  clear hc hFE
  go_wp2_with fail
  ((with_reducible refine HW.out.mono ?_); rintro x w5 ⟨rfl, own5, hS5, hFE⟩)
  clear x0
  have hc := hS5.blk HT.out.1 HT.out.2 (by decide)
  have x0 := hc.1.cell 0
  simp only [List.getElem?_toArray, List.getElem?_cons_zero] at x0
  clear HT HW hS5
  have HT := Lib.hid hc
  have HW := Lib.hid (hFE.writeL 16 16 rfl (by decide) 8 (by decide) (by decide) 8 8 rfl (by decide) true (by decide))
  clear hc hFE
  go_wp2_with fail
  ((with_reducible refine HW.out.mono ?_); rintro x w6 ⟨rfl, own6, hS6, hFE⟩)
  clear x0
  have hc := hS6.blk HT.out.1 HT.out.2 (by decide)
  have x0 := hc.1.cell 0
  simp only [List.getElem?_toArray, List.getElem?_cons_zero] at x0
  clear HT HW hS6
  have HT := Lib.hid hc
  have HW := Lib.hid (hFE.writeL 24 24 rfl (by decide) 8 (by decide) (by decide) 1 1 rfl (by decide) true (by decide))
  clear hc hFE
  go_wp2_with fail
  ((with_reducible refine HW.out.mono ?_); rintro x w7 ⟨rfl, own7, hS7, hFE⟩)
  rw [tellE, wr24 _ 8 (.inr rfl)] at hFE
  have hFE : FE w own7 w7 e p1 p2 0 2 awS awM awM := hFE
  clear x0
  have hc := hS7.blk HT.out.1 HT.out.2 (by decide)
  clear HT HW hS7
  have hBu := hFE.busy
  rw [decide_eq_true aw_st] at hBu
  have HBu := Lib.hid hBu
  have HSt := Lib.hid hFE.stepE
  have x0 := hc.1.cell 0
  simp only [List.getElem?_toArray, List.getElem?_cons_zero] at x0
  have HT := Lib.hid hc
  clear hc hFE hBu
  go_wp2_with fail
  ((with_reducible refine HBu.out.mono ?_); rintro x wz ⟨rfl, rfl⟩)
  clear HBu
  go_wp2_with fail
  ((with_reducible refine HSt.out.mono ?_); rintro x w8 ⟨rfl, own8, hS8, hFE⟩)
  clear x0
  have hc := hS8.blk HT.out.1 HT.out.2 (by decide)
  have hR := hFE.readR 4096 8 (by decide) (by decide) (by decide) (by decide)
  rw [aw_mem] at hR
  have x0 := hc.1.cell 0
  simp only [List.getElem?_toArray, List.getElem?_cons_zero] at x0
  have HR := Lib.hid hR
  have HFE := Lib.hid hFE
  clear hS8 hFE hR HT HSt hc
  go_wp2_with fail
  ((with_reducible refine HR.out.mono ?_); rintro x w9 ⟨rfl, hS9⟩)
  have hRd := (HFE.out.none_ hS9).readL 32 32 rfl (by decide) 8 (by decide) (by decide) 2 2 aw_step rfl true (by decide)
  have HRd := Lib.hid hRd
  clear hRd HFE HR hS9 x0
  go_wp2_with fail
  ((with_reducible refine HRd.out.mono ?_); rintro x w10 ⟨rfl, own10, hS10, hFE⟩)
  have HE := Lib.hid hFE.upd
  clear hFE hS10 HRd
  go_wp2
  go_ret
  exact ⟨rfl, HE.out⟩
end Go.Proofs.YtonhlgfgbdiapaaGreat

/- engine.New. -/
namespace Go.Proofs.YtonhlgfgbdiapaaGreat
set_option linter.unusedVariables false
set_option linter.unusedSimpArgs false
open Go.RowKit Go.Maps
set_option maxRecDepth 100000
theorem eng_New (own : Nat → Nat) (c p rp : Nat) (dev : Int) (hd : 0 ≤ dev ∧ dev < 8) (w : World) : Calls Tryz.prog 10 #[.int .i64 dev, .pointer (some ⟨rp, 0, none⟩), .pointer (some ⟨p, 0, none⟩)] w fun x w' => ∃ e own', x = .returned (.tuple #[.pointer (some ⟨e, 0, none⟩), .int .i64 0]) ∧ Step (fun _ => False) own w own' w' ∧ EngAt own' c w' e rp (wayT p dev) eg0 := by
  have hmm := @run_makeMap Tryz.prog
  have hS1 : Step (fun _ => False) own w (ext own w c) (w.alloc (.map #[] 0)) := ⟨(Upd.refl _ _).alloc _, fun b hb => ext_old _ _ _ hb⟩
  have hS2 : Step (fun _ => False) (ext own w c) (w.alloc (.map #[] 0)) (ext (ext own w c) (w.alloc (.map #[] 0)) c) ((w.alloc (.map #[] 0)).alloc (.cells (egC rp (wayT p dev) w.heap.size 0 0 0 (.map none)) 123)) := ⟨(Upd.refl _ _).alloc _, fun b hb => ext_old _ _ _ hb⟩
  have hM := MapB.made w Tryz.prog 23 encU
  have hR : RegAt (ext own w c) c (w.alloc (.map #[] 0)) w.heap.size eg0.rg := ⟨ext_new _ _ _ (Nat.le_refl _), [], hM, fun k => rfl⟩
  have hE : EngAt (ext (ext own w c) (w.alloc (.map #[] 0)) c) c ((w.alloc (.map #[] 0)).alloc (.cells (egC rp (wayT p dev) w.heap.size 0 0 0 (.map none)) 123)) (w.alloc (.map #[] 0)).heap.size rp (wayT p dev) eg0 :=
    ⟨w.heap.size, 0, .map none, Blk.new _ _ _, ext_new _ _ _ (Nat.le_refl _), hR.step hS2 (fun h => h), .inl ⟨rfl, rfl⟩⟩
  have hSS := hS1.trans hS2
  rw [World.size_alloc] at hE
  have HF := Lib.hid (And.intro hSS hE)
  have h1 : decide (dev < 0) = false := by simp; omega
  have h2 : decide ((8 : Int) ≤ dev) = false := by simp; omega
  have h3 : 0 ≤ dev := hd.1
  have h4 : dev < 8 := hd.2
  clear hS1 hS2 hM hR hE hSS hd
  go_enter Tryz.func10, Tryz.ntmps10
  go_wp2
  go_ret2
  exact ⟨_, _, rfl, HF.out⟩
end Go.Proofs.YtonhlgfgbdiapaaGreat
