import Derived.Test.YtonhlgfgbdiapaaGreatIo6
import Derived.Test.YtonhlgfgbdiapaaGreatMref
import Derived.Test.YtonhlgfgbdiapaaGreatTref
/- citadellaw07: New without cells, awake. -/
namespace Go.Proofs.YtonhlgfgbdiapaaGreat
set_option linter.unusedVariables false
set_option linter.unusedSimpArgs false
open Go.RowKit
set_option maxRecDepth 100000

theorem uref_New (own : Nat → Nat) (rp r : Nat) (hr : 1 ≤ r ∧ r ≤ 64) (w : World) :
    Calls Tryz.prog 28 #[.pointer (some ⟨rp, 0, none⟩), .int .i64 (r : Int)] w fun e w' => ∃ p own', e = .returned (.tuple #[.pointer (some ⟨p, 0, none⟩), .int .i64 0]) ∧ Step (fun _ => False) own w own' w' := by
  have HT := Lib.hid (tref_New own 1 2 w r hr)
  go_enter Tryz.func28, Tryz.ntmps28
  go_wp2_with fail
  ((with_reducible refine HT.out.mono ?_); rintro e w1 ⟨rfl, hS1, hT1⟩)
  have HS := Lib.hid (fun o => hS1.trans (step_allocS (ext own w 1) w1 o))
  clear hS1 hT1 HT
  go_wp2
  go_ret2
  exact ⟨_, _, rfl, HS.out _⟩
section
variable {own : Nat → Nat} {c cm ct cd : Nat} {w : World}
set_option maxHeartbeats 2000000 in
theorem law07_New (own : Nat → Nat) (c cm ct cd c2 : Nat) (r : Nat) (hr : 1 ≤ r ∧ r ≤ 64) (w : World) (hct : c ≠ ct) (hm2 : cm ≠ c2) :
    Calls Tryz.prog 7 #[.int .i64 (r : Int), .slice none 0 0] w fun e w' => ∃ p q rp tp p2 own', e = .returned (.tuple #[.agg #[.pointer (some ⟨p, 0, none⟩), .pointer (some ⟨q, 0, none⟩), .pointer (some ⟨rp, 0, none⟩), .pointer (some ⟨p2, 0, none⟩)], .bool true]) ∧
      Step (fun _ => False) own w own' w' ∧ UsAt own' c w' p rp tp us0 ∧ MemAt ramK own' cm w' rp 0 8 (fun _ => 0) ∧ TlbAt own' ct cd w' tp r [] := by
  obtain ⟨K, hK⟩ : ∃ K, K = c + cm + ct + cd + c2 + 1 := ⟨_, rfl⟩
  have hst0 : Step (fun _ => False) own w (ext own w K) (w.alloc (.cells #[.pointer none, .pointer none, .pointer none, .pointer none] 36)) := ⟨(Upd.refl _ _).alloc _, fun b hb => ext_old _ _ _ hb⟩
  have hM := law_Memory 8 (by decide) (by decide) (ext own w K) cm c2 hm2 (w.alloc (.cells #[.pointer none, .pointer none, .pointer none, .pointer none] 36))
  rw [show ((8 : Nat) : Int) = 8 from rfl] at hM
  have HM := Lib.hid hM
  have H0 := Lib.hid (And.intro hst0 (And.intro (Blk.new w 36 #[.pointer none, .pointer none, .pointer none, .pointer none]) (show ext own w K w.heap.size = K from ext_new _ _ _ (Nat.le_refl _))))
  clear hst0 hM
  go_enter Tryz.func7, Tryz.ntmps7
  go_wp2_with fail
  ((with_reducible refine HM.out.mono ?_); rintro e w1 ⟨rp, p2, own1, rfl, hS1, hA1, hB1⟩)
  have hS2 : Step (fun _ => False) own1 w1 (ext own1 w1 K) (w1.alloc (.cells #[.pointer (some ⟨rp, 0, none⟩), .pointer (some ⟨p2, 0, none⟩)] 34)) := ⟨(Upd.refl _ _).alloc _, fun b hb => ext_old _ _ _ hb⟩
  obtain ⟨k1, k2⟩ := (hS1.trans hS2).blk H0.out.2.1 H0.out.2.2 (fun h => h)
  have H1 := Lib.hid (And.intro ((H0.out.1.trans hS1).trans hS2) (And.intro (hA1.step hS2 (fun h => h)) (And.intro (And.intro k1 k2) (And.intro (Blk.new w1 34 #[.pointer (some ⟨rp, 0, none⟩), .pointer (some ⟨p2, 0, none⟩)]) (show ext own1 w1 K w1.heap.size = K from ext_new _ _ _ (Nat.le_refl _))))))
  have HN := Lib.hid (io_New (ext own1 w1 K) c ct cd rp r hr (w1.alloc (.cells #[.pointer (some ⟨rp, 0, none⟩), .pointer (some ⟨p2, 0, none⟩)] 34)) hct)
  clear hS1 hA1 hB1 hS2 k1 k2 HM H0
  go_wp2_with fail
  ((with_reducible refine HN.out.mono ?_); rintro e w2 ⟨p, tp, own2, rfl, hS2, hU2, hT2⟩)
  obtain ⟨k1, k2⟩ := hS2.blk H1.out.2.2.1.1 H1.out.2.2.1.2 (fun h => h)
  obtain ⟨j1, j2⟩ := hS2.blk H1.out.2.2.2.1 H1.out.2.2.2.2 (fun h => h)
  have y0 := j1.cell 0
  have y1 := j1.cell 1
  simp only [List.getElem?_toArray, List.getElem?_cons_zero, List.getElem?_cons_succ] at y0 y1
  have H2 := Lib.hid (And.intro (H1.out.1.trans hS2) (And.intro (H1.out.2.1.step hS2 (fun h => h)) (And.intro (And.intro hU2 hT2) (And.intro (And.intro k1 k2) (And.intro j1 j2)))))
  have HN := Lib.hid (uref_New own2 p2 r hr w2)
  have hxl : w.heap.size ≤ w.heap.size := Nat.le_refl _
  clear hS2 hU2 hT2 k1 k2 j1 j2 H1
  generalize hxr : w.heap.size = xr at *
  generalize hxt : w1.heap.size = xt at *
  go_wp2_with fail
  ((with_reducible refine HN.out.mono ?_); rintro e w3 ⟨q, own3, rfl, hS3⟩)
  obtain ⟨k1, k2⟩ := hS3.blk H2.out.2.2.2.1.1 H2.out.2.2.2.1.2 (fun h => h)
  obtain ⟨j1, j2⟩ := hS3.blk H2.out.2.2.2.2.1 H2.out.2.2.2.2.2 (fun h => h)
  have z0 := j1.cell 0
  have z1 := j1.cell 1
  have x0 := k1.cell 0
  have x1 := k1.cell 1
  have x2 := k1.cell 2
  have x3 := k1.cell 3
  simp only [List.getElem?_toArray, List.getElem?_cons_zero, List.getElem?_cons_succ] at z0 z1 x0 x1 x2 x3
  have f0 := k1.frozen 0
  have f1 := k1.frozen 1
  have f2 := k1.frozen 2
  have f3 := k1.frozen 3
  have hlr := k1.lt
  have H3 := Lib.hid (And.intro (H2.out.1.trans hS3) (And.intro (H2.out.2.1.step hS3 (fun h => h)) (And.intro (And.intro (H2.out.2.2.1.1.step hS3 (fun h => h)) (H2.out.2.2.1.2.step hS3 (fun h => h) (fun h => h))) (And.intro k1 k2))))
  clear hS3 k1 k2 j1 j2 H2 HN y0 y1
  go_wp2
  refine bodyPost_ret (results_cell_tmp_row rfl _ _ xr 36 #[.pointer (some ⟨p, 0, none⟩), .pointer (some ⟨q, 0, none⟩), .pointer (some ⟨rp, 0, none⟩), .pointer (some ⟨p2, 0, none⟩)] _ rfl ((((H3.out.2.2.2.1.set_ 0 (.pointer (some ⟨p, 0, none⟩))).set_ 1 (.pointer (some ⟨q, 0, none⟩))).set_ 2 (.pointer (some ⟨rp, 0, none⟩))).set_ 3 (.pointer (some ⟨p2, 0, none⟩))) Tryz.underlying36 rfl (by kernel_rfl)) rfl ?_
  have hx := H3.out.2.2.2.2
  have hst : Step (· = K) own3 w3 own3 ((((w3.setCell ⟨xr, 0, none⟩ (.pointer (some ⟨p, 0, none⟩))).setCell ⟨xr, 1, none⟩ (.pointer (some ⟨q, 0, none⟩))).setCell ⟨xr, 2, none⟩ (.pointer (some ⟨rp, 0, none⟩))).setCell ⟨xr, 3, none⟩ (.pointer (some ⟨p2, 0, none⟩))) :=
    ⟨((((Upd.refl _ _).setCell (p := ⟨xr, 0, none⟩) (.inl hx) _).setCell (p := ⟨xr, 1, none⟩) (.inl hx) _).setCell (p := ⟨xr, 2, none⟩) (.inl hx) _).setCell (p := ⟨xr, 3, none⟩) (.inl hx) _, fun _ _ => rfl⟩
  have hup : Upd (· = xr) w3 ((((w3.setCell ⟨xr, 0, none⟩ (.pointer (some ⟨p, 0, none⟩))).setCell ⟨xr, 1, none⟩ (.pointer (some ⟨q, 0, none⟩))).setCell ⟨xr, 2, none⟩ (.pointer (some ⟨rp, 0, none⟩))).setCell ⟨xr, 3, none⟩ (.pointer (some ⟨p2, 0, none⟩))) :=
    ((((Upd.refl (· = xr) w3).setCell (p := ⟨xr, 0, none⟩) (.inl rfl) _).setCell (p := ⟨xr, 1, none⟩) (.inl rfl) _).setCell (p := ⟨xr, 2, none⟩) (.inl rfl) _).setCell (p := ⟨xr, 3, none⟩) (.inl rfl) _
  exact ⟨p, q, rp, tp, p2, own3, rfl, ⟨H3.out.1.upd.trans' hup (fun i hi e => by omega), H3.out.1.old⟩, H3.out.2.2.1.1.step hst (by omega), H3.out.2.1.step hst (by omega), H3.out.2.2.1.2.step hst (by omega) (by omega)⟩
end
end Go.Proofs.YtonhlgfgbdiapaaGreat
