import Derived.Test.YtpodeclkgcgpgaaSp6
/- citadellaw10: New, awake. -/
namespace Go.Proofs.Ytpodeclkgcgpgaa
set_option linter.unusedVariables false
set_option linter.unusedSimpArgs false
open Go.RowKit
set_option maxRecDepth 100000

theorem ref10_New {own : Nat → Nat} {w : World} {pq p2 n r h f : Nat} {ow bt : List Int} {m : Nat → Int} {vmid : Int} (hP : PrAt own 4 w pq p2 n r h ow bt) (hM : MemAt refK own 2 w p2 0 n m) (hf : freeP ow = some f) (hv : 1 ≤ vmid ∧ vmid ≤ 15) :
    Calls Try.prog 104 #[.pointer (some ⟨p2, 0, none⟩), .pointer (some ⟨pq, 0, none⟩), .int .i64 vmid] w fun e w' => ∃ sq own', e = .returned (.tuple #[.pointer (some ⟨sq, 0, none⟩), .int .i64 0]) ∧ Step (fun x => x = 4 ∨ x = 2) own w own' w' := by
  have hT := pr_Take hP (-1)
  rw [takeP_mon hf] at hT
  have HT := Lib.hid hT
  have hfn : f < n := by
    obtain ⟨qo, qw, vs, ls, h, _⟩ := hP
    have := (free_lt hf).1
    rw [h.lo] at this; exact this
  have HM := Lib.hid hM
  obtain ⟨h1, h2⟩ := hv
  clear hT hP hM hf
  go_enter Try.func104, Try.ntmps104
  go_wp2_with fail
  refine HT.out.mono ?_; rintro e w1 ⟨rfl, hS1, hP1⟩
  have hM1 := HM.out.step hS1 (by omega)
  have HC := Lib.hid (mref_Clear hM1 f hfn)
  have H1 := Lib.hid hS1
  clear hS1 hP1 hM1 HT HM
  go_wp2_with fail
  refine HC.out.mono ?_; rintro e w2 ⟨rfl, hS2, hM2⟩
  have H2 := Lib.hid ((H1.out.mono (C' := fun x => x = 4 ∨ x = 2) (fun x h => Or.inl h)).trans (hS2.mono (fun x h => Or.inr h)))
  clear hS2 hM2 HC H1
  go_wp2
  go_ret2
  exact ⟨_, own, rfl, ⟨(H2.out.upd.alloc _).alloc _, H2.out.old⟩⟩
/-- the state behind New -/
def s10 (n : Nat) : PSt := growS ⟨initO n 1, List.replicate n 0, fun _ => 0, 0⟩ 1
theorem free10 (n : Nat) (hn : 2 ≤ n) : freeP (initO n 1) = some 1 := by
  refine freeP_some ?_ (fun i hi => ?_)
  · simp [initO, List.getElem?_append, List.getElem?_replicate]; omega
  · obtain rfl : i = 0 := by omega
    simp [initO]
set_option maxHeartbeats 2000000 in
theorem law10_New (w : World) :
    Calls Try.prog 50 #[.int .u64 0, .int .i64 8, .int .i64 1] w fun e w' => ∃ sp sq pp pq p1 p2 own', e = .returned (.tuple #[.agg #[.pointer (some ⟨sp, 0, none⟩), .pointer (some ⟨sq, 0, none⟩), .pointer (some ⟨pp, 0, none⟩), .pointer (some ⟨pq, 0, none⟩), .pointer (some ⟨p1, 0, none⟩), .pointer (some ⟨p2, 0, none⟩)], .bool true]) ∧
      Step (fun x => x ≠ 0) (fun _ => 0) w own' w' ∧ GS own' w' sp p1 pp 1 12 1 2 (s10 12) [1] := by
  have hst0 : Step (fun x => x ≠ 0) (fun _ => 0) w (ext (fun _ => 0) w 0) (w.alloc (.cells #[.pointer none, .pointer none, .pointer none, .pointer none, .pointer none, .pointer none] 78)) := ⟨(Upd.refl _ _).alloc _, fun b hb => ext_old _ _ _ hb⟩
  have hB0 := Blk.new w 78 #[.pointer none, .pointer none, .pointer none, .pointer none, .pointer none, .pointer none]
  have H0 := Lib.hid (And.intro hst0 (And.intro hB0 (show ext (fun _ => 0) w 0 w.heap.size = 0 from ext_new _ _ _ (Nat.le_refl _))))
  clear hst0 hB0
  go_enter Try.func50, Try.ntmps50
  go_wp2_with fail
  refine (place_calls 8 12 _ (by omega) (by omega) (by omega) (by omega)).mono ?_; rintro e wz ⟨rfl, rfl⟩
  rw [show (8 : Int) % 12 = 8 from by decide]
  go_wp2_with fail
  refine (law_Memory 12 (by omega) (by omega) (ext (fun _ => 0) w 0) 1 2 (by omega) _).mono ?_
  rintro e w1 ⟨p1, p2, own1, rfl, hS1, hM1, hM2⟩
  have hA : Step (fun _ => False) own1 w1 (ext own1 w1 0) (w1.alloc (.cells #[.pointer (some ⟨p1, 0, none⟩), .pointer (some ⟨p2, 0, none⟩)] 27)) := ⟨(Upd.refl _ _).alloc _, fun b hb => ext_old _ _ _ hb⟩
  have hB := Blk.new w1 27 #[.pointer (some ⟨p1, 0, none⟩), .pointer (some ⟨p2, 0, none⟩)]
  have hbv := (hS1.trans hA).blk H0.out.2.1 H0.out.2.2 (fun h => h)
  have H1 := Lib.hid (And.intro (H0.out.1.trans ((hS1.trans hA).mono (fun _ h => h.elim))) (And.intro (hM1.step hA (fun h => h)) (And.intro (hM2.step hA (fun h => h)) (And.intro (And.intro hB (show ext own1 w1 0 w1.heap.size = 0 from ext_new own1 w1 0 (Nat.le_refl _))) hbv))))
  clear hA hB hS1 hM1 hM2 hbv H0
  have HN := Lib.hid (pool_New H1.out.2.1 1 2 (by omega) (by omega) (by omega) 3)
  go_wp2_with fail
  refine HN.out.mono ?_; rintro e w3 ⟨pp, own3, rfl, hS2, hP2⟩
  have H2 := Lib.hid (And.intro (H1.out.1.trans (hS2.mono (fun _ h => h.elim))) (And.intro (show PM own3 3 1 w3 pp p1 0 12 1 2 ⟨initO 12 1, List.replicate 12 0, fun _ => 0, 0⟩ from ⟨hP2, H1.out.2.1.step hS2 (fun h => h)⟩) (And.intro (H1.out.2.2.1.step hS2 (fun h => h)) (And.intro (hS2.blk H1.out.2.2.2.1.1 H1.out.2.2.2.1.2 (fun h => h)) (hS2.blk H1.out.2.2.2.2.1 H1.out.2.2.2.2.2 (fun h => h))))))
  clear hS2 hP2 H1 HN
  have HN := Lib.hid (pr_New H2.out.2.2.1 1 2 (by omega) (by omega) (by omega) 4 (by omega))
  have hb1 := H2.out.2.2.2.1.1.cell 1
  simp only [List.getElem?_toArray, List.getElem?_cons_zero, List.getElem?_cons_succ] at hb1
  generalize w1.heap.size = tb at *
  have HV := Lib.hid (Nat.le_refl w.heap.size)
  generalize hvv : w.heap.size = vb at H2 ⊢
  rw [hvv] at HV
  have HV2 := Lib.hid (Nat.le_of_eq hvv)
  clear hvv
  go_wp2_with fail
  refine HN.out.mono ?_; rintro e w4 ⟨pq, own4, rfl, hS3, hP3⟩
  have H3 := Lib.hid (And.intro (H2.out.1.trans (hS3.mono (fun _ h => h.elim))) (And.intro (show PM own4 3 1 w4 pp p1 0 12 1 2 ⟨initO 12 1, List.replicate 12 0, fun _ => 0, 0⟩ from ⟨H2.out.2.1.1.step hS3 (fun h => h), H2.out.2.1.2.step hS3 (fun h => h)⟩) (And.intro (And.intro hP3 (H2.out.2.2.1.step hS3 (fun h => h))) (And.intro (hS3.blk H2.out.2.2.2.1.1 H2.out.2.2.2.1.2 (fun h => h)) (hS3.blk H2.out.2.2.2.2.1 H2.out.2.2.2.2.2 (fun h => h))))))
  clear hS3 hP3 H2 HN hb1
  have HN := Lib.hid (sp_New (vmid := 1) H3.out.2.1 1 (free10 12 (by omega)) (by omega))
  have hb0 := H3.out.2.2.2.1.1.cell 0
  simp only [List.getElem?_toArray, List.getElem?_cons_zero, List.getElem?_cons_succ] at hb0
  go_wp2_with fail
  refine HN.out.mono ?_; rintro e w5 ⟨sp, own5, rfl, hS4, hG4⟩
  have H4 := Lib.hid (And.intro (H3.out.1.trans (hS4.mono (fun x h => by omega))) (And.intro hG4 (And.intro (And.intro (H3.out.2.2.1.1.step hS4 (by omega) (by omega)) (H3.out.2.2.1.2.step hS4 (by omega))) (And.intro (hS4.blk H3.out.2.2.2.1.1 H3.out.2.2.2.1.2 (by omega)) (hS4.blk H3.out.2.2.2.2.1 H3.out.2.2.2.2.2 (by omega))))))
  clear hS4 hG4 H3 HN hb0
  have HN := Lib.hid (ref10_New (vmid := 1) H4.out.2.2.1.1 H4.out.2.2.1.2 (free10 12 (by omega)) (by omega))
  have hb1 := H4.out.2.2.2.1.1.cell 1
  simp only [List.getElem?_toArray, List.getElem?_cons_zero, List.getElem?_cons_succ] at hb1
  go_wp2_with fail
  refine HN.out.mono ?_; rintro e w6 ⟨sq, own6, rfl, hS5⟩
  have H5 := Lib.hid (And.intro (H4.out.1.trans (hS5.mono (fun x h => by omega))) (And.intro (H4.out.2.1.step hS5 (by omega)) (And.intro (hS5.blk H4.out.2.2.2.1.1 H4.out.2.2.2.1.2 (by omega)) (hS5.blk H4.out.2.2.2.2.1 H4.out.2.2.2.2.2 (by omega)))))
  clear hS5 H4 HN hb1
  have hb0 := H5.out.2.2.1.1.cell 0
  have hb1 := H5.out.2.2.1.1.cell 1
  simp only [List.getElem?_toArray, List.getElem?_cons_zero, List.getElem?_cons_succ] at hb0 hb1
  have hl := H5.out.2.2.2.1.lt
  have z0 := H5.out.2.2.2.1.frozen 0
  have z1 := H5.out.2.2.2.1.frozen 1
  have z2 := H5.out.2.2.2.1.frozen 2
  have z3 := H5.out.2.2.2.1.frozen 3
  have z4 := H5.out.2.2.2.1.frozen 4
  have z5 := H5.out.2.2.2.1.frozen 5
  have y0 := H5.out.2.2.2.1.cell 0
  have y1 := H5.out.2.2.2.1.cell 1
  have y2 := H5.out.2.2.2.1.cell 2
  have y3 := H5.out.2.2.2.1.cell 3
  have y4 := H5.out.2.2.2.1.cell 4
  have y5 := H5.out.2.2.2.1.cell 5
  simp only [List.getElem?_toArray, List.getElem?_cons_zero, List.getElem?_cons_succ] at y0 y1 y2 y3 y4 y5
  go_wp2
  have hlv : w.heap.size ≤ vb := HV2.out
  have hBB := (((((H5.out.2.2.2.1.set_ 0 (.pointer (some ⟨sp, 0, none⟩))).set_ 1 (.pointer (some ⟨sq, 0, none⟩))).set_ 2 (.pointer (some ⟨pp, 0, none⟩))).set_ 3 (.pointer (some ⟨pq, 0, none⟩))).set_ 4 (.pointer (some ⟨p1, 0, none⟩))).set_ 5 (.pointer (some ⟨p2, 0, none⟩))
  have hst : Step (fun x => x = 0) own6 w6 own6 ((((((w6.setCell ⟨vb, 0, none⟩ (.pointer (some ⟨sp, 0, none⟩))).setCell ⟨vb, 1, none⟩ (.pointer (some ⟨sq, 0, none⟩))).setCell ⟨vb, 2, none⟩ (.pointer (some ⟨pp, 0, none⟩))).setCell ⟨vb, 3, none⟩ (.pointer (some ⟨pq, 0, none⟩))).setCell ⟨vb, 4, none⟩ (.pointer (some ⟨p1, 0, none⟩))).setCell ⟨vb, 5, none⟩ (.pointer (some ⟨p2, 0, none⟩))) :=
    ⟨((((((Upd.refl _ _).setCell (.inl H5.out.2.2.2.2) _).setCell (.inl H5.out.2.2.2.2) _).setCell (.inl H5.out.2.2.2.2) _).setCell (.inl H5.out.2.2.2.2) _).setCell (.inl H5.out.2.2.2.2) _).setCell (.inl H5.out.2.2.2.2) _, fun _ _ => rfl⟩
  refine bodyPost_ret (results_cell_tmp_row rfl _ _ vb 78 #[.pointer (some ⟨sp, 0, none⟩), .pointer (some ⟨sq, 0, none⟩), .pointer (some ⟨pp, 0, none⟩), .pointer (some ⟨pq, 0, none⟩), .pointer (some ⟨p1, 0, none⟩), .pointer (some ⟨p2, 0, none⟩)] _ rfl hBB Try.underlying78 rfl (by kernel_rfl)) rfl ?_
  refine ⟨sp, sq, pp, pq, p1, p2, own6, rfl, ⟨((((((H5.out.1.upd).setCell (.inr hlv) _).setCell (.inr hlv) _).setCell (.inr hlv) _).setCell (.inr hlv) _).setCell (.inr hlv) _).setCell (.inr hlv) _, H5.out.1.old⟩, ?_⟩
  exact H5.out.2.1.step hst (by decide)
theorem en_keep {D : Nat → Prop} {m m' : Nat → Int} (hm : ∀ x, ¬ D (x / 4096) → m' x = m x) {t i : Nat} (ht : ¬ D t) (hi : i < 512) : en m' t i = en m t i := by
  unfold en
  rw [num_congr 8 (t * 4096 + 8 * i) (fun x h1 h2 => hm x (by rw [show x / 4096 = t from by omega]; exact ht))]
/-- a page stays where it is as long as its tables stay -/
theorem PgOk.keep {D : Nat → Prop} {n t0 page fr : Nat} {pm : Int} {m m' : Nat → Int} (h : PgOk n m t0 page fr pm) (hm : ∀ x, ¬ D (x / 4096) → m' x = m x) (h0 : ¬ D t0) (h1 : ¬ D (lv1 m t0 page / 1024)) (h2 : ¬ D (lv0 m t0 page / 1024)) : PgOk n m' t0 page fr pm := by
  have hp := h.hp
  have e1 : lv1 m' t0 page = lv1 m t0 page := en_keep hm h0 (by omega)
  have e0 : lv0 m' t0 page = lv0 m t0 page := by
    unfold lv0; rw [e1]; exact en_keep hm h1 (Nat.mod_lt _ (by omega))
  have ed : dnP m' t0 page = dnP m t0 page := by unfold dnP; rw [e1, e0]
  have hf := h.fnd
  refine ⟨hp, ⟨h.dn.h0, by rw [e1]; exact h.dn.h1, by rw [e1, e0]; exact h.dn.h2⟩, ?_, h.lt⟩
  rw [← hf]
  unfold fndP
  rw [ed]
  by_cases hz : (dnP m t0 page).2 = 0
  · have ht : (dnP m t0 page).1 = lv0 m t0 page / 1024 := by
      unfold dnP at hz ⊢
      split at hz
      · cases hz
      · split at hz
        · cases hz
        · rename_i a b; rw [if_neg a, if_neg b]
    rw [ht, en_keep hm h2 (Nat.mod_lt _ (by omega))]
  · rw [if_neg (fun h => hz h.1), if_neg (fun h => hz h.1)]
end Go.Proofs.Ytpodeclkgcgpgaa
