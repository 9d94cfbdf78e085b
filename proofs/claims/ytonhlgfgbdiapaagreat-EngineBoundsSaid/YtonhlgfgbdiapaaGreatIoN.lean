import Derived.Test.YtonhlgfgbdiapaaGreatIo7
import Derived.Test.YtonhlgfgbdiapaaGreatIoU
import Derived.Test.YtonhlgfgbdiapaaGreatMemC
/- citadellaw07.New, with cells. -/
namespace Go.Proofs.YtonhlgfgbdiapaaGreat
set_option linter.unusedVariables false
set_option linter.unusedSimpArgs false
open Go.RowKit
set_option maxRecDepth 100000

/-- a place of the document's: device, index, guest, number -/
structure To4 where
  d : Int
  i : Int
  g : Int
  q : Int
def toC (t : To4) : List Value := [.int .i64 t.d, .int .u64 t.i, .int .i64 t.g, .int .i64 t.q]
def tosC (l : List To4) : List Value := l.flatMap toC
/-- the cells of the document's IOMMU -/
def urC (p2 t2 : Nat) (s : Us) (v : Value) : Array Value :=
  #[.pointer (some ⟨p2, 0, none⟩), .pointer (some ⟨t2, 0, none⟩), .int .u64 (s.rt 0 : Int), .int .u64 (s.rt 1 : Int), .int .u64 (s.rt 2 : Int), .int .u64 (s.rt 3 : Int), .int .u64 (s.rt 4 : Int), .int .u64 (s.rt 5 : Int), .int .u64 (s.rt 6 : Int), .int .u64 (s.rt 7 : Int),
    v, .int .u64 (s.ring : Int), .bool s.rd, .int .i64 (s.fi : Int), .int .i64 (s.un : Int), .bool s.ov]
def UrefAt (own : Nat → Nat) (c d : Nat) (w : World) (q p2 t2 : Nat) (s : Us) (ms : List To4) : Prop := ∃ v, Blk w q 87 (urC p2 t2 s v) ∧ own q = c ∧ Rw 191 4 own d w v ms.length (tosC ms)
theorem UrefAt.step {own own' : Nat → Nat} {c d q p2 t2 : Nat} {w w' : World} {s : Us} {ms : List To4} {C : Nat → Prop} (h : UrefAt own c d w q p2 t2 s ms) (hS : Step C own w own' w') (hc : ¬ C c) (hd : ¬ C d) : UrefAt own' c d w' q p2 t2 s ms := by
  obtain ⟨v, hb, ho, hR⟩ := h
  obtain ⟨h1, h2⟩ := hS.blk hb ho hc
  exact ⟨v, h1, h2, hR.step hS hd⟩
theorem uref_NewC (own : Nat → Nat) (c d ct cd : Nat) (p2 r : Nat) (hr : 1 ≤ r ∧ r ≤ 64) (w : World) :
    Calls Tryz.prog 28 #[.pointer (some ⟨p2, 0, none⟩), .int .i64 (r : Int)] w fun e w' => ∃ q t2 own', e = .returned (.tuple #[.pointer (some ⟨q, 0, none⟩), .int .i64 0]) ∧ Step (fun _ => False) own w own' w' ∧ UrefAt own' c d w' q p2 t2 us0 [] ∧ TrefAt own' ct cd w' t2 r [] := by
  have HT := Lib.hid (tref_New own ct cd w r hr)
  go_enter Tryz.func28, Tryz.ntmps28
  go_wp2_with fail
  ((with_reducible refine HT.out.mono ?_); rintro e w1 ⟨rfl, hS1, hT1⟩)
  have hS2 : Step (fun _ => False) (ext own w ct) w1 (ext (ext own w ct) w1 c) (w1.alloc (.cells (urC p2 w.heap.size us0 (.slice none 0 0)) 87)) := ⟨(Upd.refl _ _).alloc _, fun b hb => ext_old _ _ _ hb⟩
  have H := Lib.hid (And.intro (hS1.trans hS2) (And.intro (show UrefAt (ext (ext own w ct) w1 c) c d (w1.alloc (.cells (urC p2 w.heap.size us0 (.slice none 0 0)) 87)) w1.heap.size p2 w.heap.size us0 [] from ⟨_, Blk.new _ _ _, ext_new _ _ _ (Nat.le_refl _), Rw.nil _ _ _ _ _⟩) (hT1.step hS2 (fun h => h) (fun h => h))))
  clear hS1 hT1 HT hS2
  go_wp2
  go_ret2
  exact ⟨_, _, _, rfl, H.out.1, H.out.2.1, H.out.2.2⟩
/-- what a law's object stands for; colours from K on -/
structure OnAt (K : Nat) (own : Nat → Nat) (w : World) (p q rp tp p2 t2 r : Nat) (s s' : Us) (m m' : Nat → Int) (l l' : List Tr) (ms : List To4) : Prop where
  u : UsAt own (K + 1) w p rp tp s
  mm : MemAt ramK own (K + 2) w rp 0 8 m
  t : TlbAt own (K + 3) (K + 4) w tp r l
  mr : MemAt refK own (K + 5) w p2 0 8 m'
  ur : UrefAt own (K + 6) (K + 10) w q p2 t2 s' ms
  tr : TrefAt own (K + 11) (K + 12) w t2 r l'
theorem OnAt.step {K : Nat} {own own' : Nat → Nat} {w w' : World} {p q rp tp p2 t2 r : Nat} {s s' : Us} {m m' : Nat → Int} {l l' : List Tr} {ms : List To4} {C : Nat → Prop} (h : OnAt K own w p q rp tp p2 t2 r s s' m m' l l' ms) (hS : Step C own w own' w') (hC : ∀ x, C x → x ≤ K ∨ K + 12 < x) : OnAt K own' w' p q rp tp p2 t2 r s s' m m' l l' ms :=
  ⟨h.u.step hS (fun h => by have := hC _ h; omega), h.mm.step hS (fun h => by have := hC _ h; omega), h.t.step hS (fun h => by have := hC _ h; omega) (fun h => by have := hC _ h; omega), h.mr.step hS (fun h => by have := hC _ h; omega), h.ur.step hS (fun h => by have := hC _ h; omega) (fun h => by have := hC _ h; omega), h.tr.step hS (fun h => by have := hC _ h; omega) (fun h => by have := hC _ h; omega)⟩
set_option maxHeartbeats 2000000 in
theorem law07_NewC (K : Nat) (own : Nat → Nat) (r : Nat) (hr : 1 ≤ r ∧ r ≤ 64) (w : World) (v : Value) (cs : List (Int × Nat)) (hv : CellsAt w v cs) (hlen : cs.length ≤ 9223372036854775807) (hb : ∀ x ∈ cs, -9223372036854775808 ≤ x.1 ∧ x.1 ≤ 9223372036854775807 ∧ x.2 < 18446744073709551616) :
    Calls Tryz.prog 7 #[.int .i64 (r : Int), v] w fun e w' => ∃ p q rp tp p2 t2 own', e = .returned (.tuple #[.agg #[.pointer (some ⟨p, 0, none⟩), .pointer (some ⟨q, 0, none⟩), .pointer (some ⟨rp, 0, none⟩), .pointer (some ⟨p2, 0, none⟩)], .bool true]) ∧
      Step (fun _ => False) own w own' w' ∧ OnAt K own' w' p q rp tp p2 t2 r us0 us0 (cellsM 8 (fun _ => 0) cs) (cellsM 8 (fun _ => 0) cs) [] [] [] := by
  have hst0 : Step (fun _ => False) own w (ext own w K) (w.alloc (.cells #[.pointer none, .pointer none, .pointer none, .pointer none] 36)) := ⟨(Upd.refl _ _).alloc _, fun b hb => ext_old _ _ _ hb⟩
  obtain ⟨M0, hM0⟩ : ∃ M0, cellsM 8 (fun _ => 0) cs = M0 := ⟨_, rfl⟩
  have hM := law_MemoryC 8 (by decide) (by decide) (ext own w K) (K + 2) (K + 5) (by omega) (w.alloc (.cells #[.pointer none, .pointer none, .pointer none, .pointer none] 36)) v cs (hv.upd hst0.upd) hlen hb
  rw [hM0] at hM ⊢
  rw [show ((8 : Nat) : Int) = 8 from rfl] at hM
  have HM := Lib.hid hM
  have H0 := Lib.hid (And.intro hst0 (And.intro (Blk.new w 36 #[.pointer none, .pointer none, .pointer none, .pointer none]) (show ext own w K w.heap.size = K from ext_new _ _ _ (Nat.le_refl _))))
  obtain ⟨A, cap, rfl, _⟩ := hv
  clear hst0 hM hb hM0
  go_enter Tryz.func7, Tryz.ntmps7
  go_wp2_with fail
  ((with_reducible refine HM.out.mono ?_); rintro e w1 ⟨rp, p2, own1, rfl, hS1, hA1, hB1⟩)
  have hS2 : Step (fun _ => False) own1 w1 (ext own1 w1 K) (w1.alloc (.cells #[.pointer (some ⟨rp, 0, none⟩), .pointer (some ⟨p2, 0, none⟩)] 34)) := ⟨(Upd.refl _ _).alloc _, fun b hb => ext_old _ _ _ hb⟩
  obtain ⟨k1, k2⟩ := (hS1.trans hS2).blk H0.out.2.1 H0.out.2.2 (fun h => h)
  have H1 := Lib.hid (And.intro ((H0.out.1.trans hS1).trans hS2) (And.intro (And.intro (hA1.step hS2 (fun h => h)) (hB1.step hS2 (fun h => h))) (And.intro (And.intro k1 k2) (And.intro (Blk.new w1 34 #[.pointer (some ⟨rp, 0, none⟩), .pointer (some ⟨p2, 0, none⟩)]) (show ext own1 w1 K w1.heap.size = K from ext_new _ _ _ (Nat.le_refl _))))))
  have HN := Lib.hid (io_New (ext own1 w1 K) (K + 1) (K + 3) (K + 4) rp r hr (w1.alloc (.cells #[.pointer (some ⟨rp, 0, none⟩), .pointer (some ⟨p2, 0, none⟩)] 34)) (by omega))
  clear hS1 hA1 hB1 hS2 k1 k2 HM H0
  go_wp2_with fail
  ((with_reducible refine HN.out.mono ?_); rintro e w2 ⟨p, tp, own2, rfl, hS2, hU2, hT2⟩)
  obtain ⟨k1, k2⟩ := hS2.blk H1.out.2.2.1.1 H1.out.2.2.1.2 (fun h => h)
  obtain ⟨j1, j2⟩ := hS2.blk H1.out.2.2.2.1 H1.out.2.2.2.2 (fun h => h)
  have y0 := j1.cell 0
  have y1 := j1.cell 1
  simp only [List.getElem?_toArray, List.getElem?_cons_zero, List.getElem?_cons_succ] at y0 y1
  have H2 := Lib.hid (And.intro (H1.out.1.trans hS2) (And.intro (And.intro (H1.out.2.1.1.step hS2 (fun h => h)) (H1.out.2.1.2.step hS2 (fun h => h))) (And.intro (And.intro hU2 hT2) (And.intro (And.intro k1 k2) (And.intro j1 j2)))))
  have HN := Lib.hid (uref_NewC own2 (K + 6) (K + 10) (K + 11) (K + 12) p2 r hr w2)
  have hxl : w.heap.size ≤ w.heap.size := Nat.le_refl _
  clear hS2 hU2 hT2 k1 k2 j1 j2 H1
  generalize hxr : w.heap.size = xr at *
  generalize hxt : w1.heap.size = xt at *
  go_wp2_with fail
  ((with_reducible refine HN.out.mono ?_); rintro e w3 ⟨q, t2, own3, rfl, hS3, hUr, hTr⟩)
  obtain ⟨k1, k2⟩ := hS3.blk H2.out.2.2.2.1.1 H2.out.2.2.2.1.2 (fun h => h)
  obtain ⟨j1, j2⟩ := hS3.blk H2.out.2.2.2.2.1 H2.out.2.2.2.2.2 (fun h => h)
  have z0 := j1.cell 0
  have z1 := j1.cell 1
  have x0 := k1.cell 0
  have x1 := k1.cell 1
  have x2 := k1.cell 2
  have x3 := k1.cell 3
  simp only [List.getElem?_toArray, List.getElem?_cons_zero, List.getElem?_cons_succ] at z0 z1 x0 x1 x2 x3
  have f0 := k1.frozen 0
  have f1 := k1.frozen 1
  have f2 := k1.frozen 2
  have f3 := k1.frozen 3
  have hlr := k1.lt
  have H3 := Lib.hid (And.intro (H2.out.1.trans hS3) (And.intro (show OnAt K own3 w3 p q rp tp p2 t2 r us0 us0 M0 M0 [] [] [] from ⟨H2.out.2.2.1.1.step hS3 (fun h => h), H2.out.2.1.1.step hS3 (fun h => h), H2.out.2.2.1.2.step hS3 (fun h => h) (fun h => h), H2.out.2.1.2.step hS3 (fun h => h), hUr, hTr⟩) (And.intro k1 k2)))
  clear hS3 k1 k2 j1 j2 H2 HN y0 y1 hUr hTr
  go_wp2
  refine bodyPost_ret (results_cell_tmp_row rfl _ _ xr 36 #[.pointer (some ⟨p, 0, none⟩), .pointer (some ⟨q, 0, none⟩), .pointer (some ⟨rp, 0, none⟩), .pointer (some ⟨p2, 0, none⟩)] _ rfl ((((H3.out.2.2.1.set_ 0 (.pointer (some ⟨p, 0, none⟩))).set_ 1 (.pointer (some ⟨q, 0, none⟩))).set_ 2 (.pointer (some ⟨rp, 0, none⟩))).set_ 3 (.pointer (some ⟨p2, 0, none⟩))) Tryz.underlying36 rfl (by kernel_rfl)) rfl ?_
  have hx := H3.out.2.2.2
  have hst : Step (· = K) own3 w3 own3 ((((w3.setCell ⟨xr, 0, none⟩ (.pointer (some ⟨p, 0, none⟩))).setCell ⟨xr, 1, none⟩ (.pointer (some ⟨q, 0, none⟩))).setCell ⟨xr, 2, none⟩ (.pointer (some ⟨rp, 0, none⟩))).setCell ⟨xr, 3, none⟩ (.pointer (some ⟨p2, 0, none⟩))) :=
    ⟨((((Upd.refl _ _).setCell (p := ⟨xr, 0, none⟩) (.inl hx) _).setCell (p := ⟨xr, 1, none⟩) (.inl hx) _).setCell (p := ⟨xr, 2, none⟩) (.inl hx) _).setCell (p := ⟨xr, 3, none⟩) (.inl hx) _, fun _ _ => rfl⟩
  have hup : Upd (· = xr) w3 ((((w3.setCell ⟨xr, 0, none⟩ (.pointer (some ⟨p, 0, none⟩))).setCell ⟨xr, 1, none⟩ (.pointer (some ⟨q, 0, none⟩))).setCell ⟨xr, 2, none⟩ (.pointer (some ⟨rp, 0, none⟩))).setCell ⟨xr, 3, none⟩ (.pointer (some ⟨p2, 0, none⟩))) :=
    ((((Upd.refl (· = xr) w3).setCell (p := ⟨xr, 0, none⟩) (.inl rfl) _).setCell (p := ⟨xr, 1, none⟩) (.inl rfl) _).setCell (p := ⟨xr, 2, none⟩) (.inl rfl) _).setCell (p := ⟨xr, 3, none⟩) (.inl rfl) _
  exact ⟨p, q, rp, tp, p2, t2, own3, rfl, ⟨H3.out.1.upd.trans' hup (fun i hi e => by omega), H3.out.1.old⟩, H3.out.2.1.step hst (fun x hx => by omega)⟩
end Go.Proofs.YtonhlgfgbdiapaaGreat
