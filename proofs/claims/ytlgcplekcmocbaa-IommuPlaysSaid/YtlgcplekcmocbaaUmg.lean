import Derived.Test.YtlgcplekcmocbaaUmc
/- citadellaw07.On.Do, kind by kind (printed by gdo.py). -/
namespace Go.Proofs.Ytlgcplekcmocbaa
set_option linter.unusedVariables false
set_option linter.unusedSimpArgs false
open Go.RowKit
set_option maxRecDepth 100000

section
variable {own : Nat → Nat} {w : World} {p q rp tp p2 t2 r : Nat} {s : Us} {m : Nat → Int} {l : List Tr} {ms : List To4} {xk xd xs xg xq : Int} {xa xv : Nat} {xw : Bool}
set_option maxHeartbeats 2000000 in
theorem do_5 (hA : PA own w p rp tp r s m l) (hD : PD own w q p2 t2 r s m l ms) (hI : PI s l ms) (hms : ms.length < 4398046511103) (hbk : i64B xk) (hbs : i64B xs) (hba : xa < 18446744073709551616) (hbv : xv < 18446744073709551616) (hk : xk % 11 = 5) :
    Calls Try.prog 29 #[.agg #[.pointer (some ⟨p, 0, none⟩), .pointer (some ⟨q, 0, none⟩), .pointer (some ⟨rp, 0, none⟩), .pointer (some ⟨p2, 0, none⟩)], .agg #[.int .i64 xk, .int .i64 xd, .int .i64 xs, .int .u64 (xa : Int), .int .u64 (xv : Int), .bool xw, .int .i64 xg, .int .i64 xq]] w fun e w' => e = .returned (.bool true) ∧ ∃ own' s' m' l' ms', Step (fun x => x ≠ 0 ∧ x < 50) own w own' w' ∧ PA own' w' p rp tp r s' m' l' ∧ PD own' w' q p2 t2 r s' m' l' ms' ∧ PI s' l' ms' ∧ ms'.length ≤ ms.length + 1 := by
  have P1 := fun w => place_calls xk 11 w hbk.1 hbk.2 (by decide) (by decide)
  rw [hk] at P1
  have HP := Lib.hid P1
  have hS1 : Step (fun _ => False) own w (ext own w 50) (w.alloc (.cells #[.pointer (some ⟨p, 0, none⟩), .pointer (some ⟨q, 0, none⟩), .pointer (some ⟨rp, 0, none⟩), .pointer (some ⟨p2, 0, none⟩)] 31)) := ⟨(Upd.refl _ _).alloc _, fun b hb => ext_old _ _ _ hb⟩
  have hS2 : Step (fun _ => False) (ext own w 50) (w.alloc (.cells #[.pointer (some ⟨p, 0, none⟩), .pointer (some ⟨q, 0, none⟩), .pointer (some ⟨rp, 0, none⟩), .pointer (some ⟨p2, 0, none⟩)] 31)) (ext (ext own w 50) (w.alloc (.cells #[.pointer (some ⟨p, 0, none⟩), .pointer (some ⟨q, 0, none⟩), .pointer (some ⟨rp, 0, none⟩), .pointer (some ⟨p2, 0, none⟩)] 31)) 50) ((w.alloc (.cells #[.pointer (some ⟨p, 0, none⟩), .pointer (some ⟨q, 0, none⟩), .pointer (some ⟨rp, 0, none⟩), .pointer (some ⟨p2, 0, none⟩)] 31)).alloc (.cells #[.int .i64 xk, .int .i64 xd, .int .i64 xs, .int .u64 (xa : Int), .int .u64 (xv : Int), .bool xw, .int .i64 xg, .int .i64 xq] 54)) := ⟨(Upd.refl _ _).alloc _, fun b hb => ext_old _ _ _ hb⟩
  have hX : DX (ext (ext own w 50) (w.alloc (.cells #[.pointer (some ⟨p, 0, none⟩), .pointer (some ⟨q, 0, none⟩), .pointer (some ⟨rp, 0, none⟩), .pointer (some ⟨p2, 0, none⟩)] 31)) 50) ((w.alloc (.cells #[.pointer (some ⟨p, 0, none⟩), .pointer (some ⟨q, 0, none⟩), .pointer (some ⟨rp, 0, none⟩), .pointer (some ⟨p2, 0, none⟩)] 31)).alloc (.cells #[.int .i64 xk, .int .i64 xd, .int .i64 xs, .int .u64 (xa : Int), .int .u64 (xv : Int), .bool xw, .int .i64 xg, .int .i64 xq] 54)) w.heap.size (w.heap.size + 1) p q rp p2 xk xd xs xa xv xw xg xq := by
    obtain ⟨g1, g2⟩ := hS2.blk (Blk.new w _ _) (ext_new own w 50 (Nat.le_refl _)) (fun h => h)
    have g3 := Blk.new (w.alloc (.cells #[.pointer (some ⟨p, 0, none⟩), .pointer (some ⟨q, 0, none⟩), .pointer (some ⟨rp, 0, none⟩), .pointer (some ⟨p2, 0, none⟩)] 31)) 54 #[.int .i64 xk, .int .i64 xd, .int .i64 xs, .int .u64 (xa : Int), .int .u64 (xv : Int), .bool xw, .int .i64 xg, .int .i64 xq]
    have g4 : ext (ext own w 50) (w.alloc (.cells #[.pointer (some ⟨p, 0, none⟩), .pointer (some ⟨q, 0, none⟩), .pointer (some ⟨rp, 0, none⟩), .pointer (some ⟨p2, 0, none⟩)] 31)) 50 (w.alloc (.cells #[.pointer (some ⟨p, 0, none⟩), .pointer (some ⟨q, 0, none⟩), .pointer (some ⟨rp, 0, none⟩), .pointer (some ⟨p2, 0, none⟩)] 31)).heap.size = 50 := ext_new _ _ _ (Nat.le_refl _)
    rw [World.size_alloc] at g3 g4
    exact ⟨g1, g2, g3, g4⟩
  have hS := hS1.trans hS2
  have hA1 := hA.step hS (fun x h => h.elim)
  have hD1 := hD.step hS (fun x h => h.elim)
  obtain ⟨b0, b1, x1, x2, x3, x4, x5, x6, x7, lb, lx⟩ := hX.cells
  have H0 := Lib.hid (And.intro (hS.mono (C' := fun x => x ≠ 0 ∧ x < 50) (fun x h => h.elim)) (And.intro hA1 (And.intro hD1 (And.intro hX hI))))
  clear P1 hS1 hS2 hX hS hA1 hD1 hA hD hk hI
  go_enter Try.func29, Try.ntmps29
  go_wp2_with fail
  ((with_reducible refine (HP.out _).mono ?_); rintro e wz ⟨rfl, rfl⟩)
  clear HP
  generalize (ext (ext own w 50) (w.alloc (.cells #[.pointer (some ⟨p, 0, none⟩), .pointer (some ⟨q, 0, none⟩), .pointer (some ⟨rp, 0, none⟩), .pointer (some ⟨p2, 0, none⟩)] 31)) 50) = own1 at *
  generalize ((w.alloc (.cells #[.pointer (some ⟨p, 0, none⟩), .pointer (some ⟨q, 0, none⟩), .pointer (some ⟨rp, 0, none⟩), .pointer (some ⟨p2, 0, none⟩)] 31)).alloc (.cells #[.int .i64 xk, .int .i64 xd, .int .i64 xs, .int .u64 (xa : Int), .int .u64 (xv : Int), .bool xw, .int .i64 xg, .int .i64 xq] 54)) = w1 at *
  generalize hob : w.heap.size = ob at *
  generalize hxb : ob + 1 = xb at *
  cases hn : nextOk s with
  | false =>
    have hnn : nextS s = s := by unfold nextS; rw [hn]; rfl
    have HAc := Lib.hid (io_Next_none H0.out.2.1.u H0.out.2.1.mm hn)
    have HN := Lib.hid hn
    clear hn hnn
    go_wp2_with fail
    ((with_reducible refine HAc.out.mono ?_); rintro e w2 ⟨rfl, own2, hS2, hU2, hM2⟩)
    have hst : Step (fun _ => False) own2 w2 (ext own2 w2 50) (w2.alloc (.cells #[.int .i64 0, .int .i64 0, .int .u64 0] 43)) := ⟨(Upd.refl _ _).alloc _, fun b hb => ext_old _ _ _ hb⟩
    have hP2 := (show PA own2 w2 p rp tp r s m l from ⟨hU2, hM2, H0.out.2.1.t.step hS2 (fun h => h) (fun h => h)⟩).step hst (fun x h => h.elim)
    have hD2 := (H0.out.2.2.1.step hS2 (fun x h => h.elim)).step hst (fun x h => h.elim)
    have hX2 := (H0.out.2.2.2.1.step hS2 (fun h => h)).step hst (fun h => h)
    have hy := Blk.new w2 43 #[.int .i64 0, .int .i64 0, .int .u64 0]
    have HDc := Lib.hid (uref_Next_none hD2.ur HN.out)
    have H2 := Lib.hid (And.intro ((H0.out.1.trans (hS2.mono (fun x h => h.elim))).trans (hst.mono (fun x h => h.elim))) (And.intro hP2 (And.intro hD2 hy)))
    obtain ⟨b0, b1, x1, x2, x3, x4, x5, x6, x7, lb, lx⟩ := hX2.cells
    clear hS2 hU2 hM2 hst hP2 hD2 hX2 HAc hy
    go_wp2_with fail
    generalize w2.heap.size = yb at *
    generalize (w2.alloc (.cells #[.int .i64 0, .int .i64 0, .int .u64 0] 43)) = w3 at *
    generalize ext own2 w2 50 = own3 at *
    ((with_reducible refine HDc.out.mono ?_); rintro e w4 ⟨rfl, hU4⟩)
    have hS4 : Step (fun _ => False) own3 w3 own3 w4 := ⟨hU4, fun _ _ => rfl⟩
    have k1 := H2.out.2.2.2.upd hU4 (fun h => h)
    have y0 := k1.cell 0
    have y1 := k1.cell 1
    have y2 := k1.cell 2
    simp only [List.getElem?_toArray, List.getElem?_cons_zero, List.getElem?_cons_succ] at y0 y1 y2
    have ly := k1.lt
    have hst := step_allocS own3 w4 (.cells #[.int .i64 0, .int .i64 0, .int .u64 0] 43)
    have H3 := Lib.hid (show ∃ own' s' m' l' ms', Step (fun x => x ≠ 0 ∧ x < 50) own w own' (w4.alloc (.cells #[.int .i64 0, .int .i64 0, .int .u64 0] 43)) ∧ PA own' (w4.alloc (.cells #[.int .i64 0, .int .i64 0, .int .u64 0] 43)) p rp tp r s' m' l' ∧ PD own' (w4.alloc (.cells #[.int .i64 0, .int .i64 0, .int .u64 0] 43)) q p2 t2 r s' m' l' ms' ∧ PI s' l' ms' ∧ ms'.length ≤ ms.length + 1 from
      ⟨own3, s, m, l, ms, (H2.out.1.trans (hS4.mono (fun x h => h.elim))).trans (hst.mono (fun x h => h.elim)), (H2.out.2.1.step hS4 (fun x h => h.elim)).step hst (fun x h => h.elim), (H2.out.2.2.1.step hS4 (fun x h => h.elim)).step hst (fun x h => h.elim), H0.out.2.2.2.2, by omega⟩)
    clear hS4 hU4 H2 H0 HDc k1 hst HN
    go_wp2
    go_ret
    exact ⟨rfl, H3.out⟩
  | true =>
    have hAc := io_Next H0.out.2.1.u H0.out.2.1.mm (by decide) H0.out.2.2.2.2.ok hn
    have hDc := fun (own2 : Nat → Nat) (w2 : World) (hd : PD own2 w2 q p2 t2 r s m l ms) => uref_Next hd.ur hd.mr (by decide) (by decide) H0.out.2.2.2.2.ok hn
    obtain ⟨V1, hV1⟩ : ∃ V, num m (nextA s) 4 = V := ⟨_, rfl⟩
    obtain ⟨V2, hV2⟩ : ∃ V, num m (nextA s + 4) 4 = V := ⟨_, rfl⟩
    obtain ⟨V3, hV3⟩ : ∃ V, num m (nextA s + 8) 8 = V := ⟨_, rfl⟩
    rw [hV1, hV2, hV3] at hAc
    simp only [hV1, hV2, hV3] at hDc
    have HAc := Lib.hid hAc
    have HDc0 := Lib.hid hDc
    clear hn hAc hDc hV1 hV2 hV3
    go_wp2_with fail
    ((with_reducible refine HAc.out.mono ?_); rintro e w2 ⟨rfl, own2, hS2, hU2, hM2⟩)
    have hst : Step (fun _ => False) own2 w2 (ext own2 w2 50) (w2.alloc (.cells #[.int .i64 V1, .int .i64 V2, .int .u64 V3] 43)) := ⟨(Upd.refl _ _).alloc _, fun b hb => ext_old _ _ _ hb⟩
    have hP2 := (show PA own2 w2 p rp tp r (nextS s) m l from ⟨hU2, hM2, H0.out.2.1.t.step hS2 (by decide) (by decide)⟩).step hst (fun x h => h.elim)
    have hD2 := (H0.out.2.2.1.step hS2 (by omega)).step hst (fun x h => h.elim)
    have hX2 := (H0.out.2.2.2.1.step hS2 (by decide)).step hst (fun h => h)
    have hy := Blk.new w2 43 #[.int .i64 V1, .int .i64 V2, .int .u64 V3]
    have hyo : ext own2 w2 50 w2.heap.size = 50 := ext_new _ _ _ (Nat.le_refl _)
    have HDc := Lib.hid (HDc0.out _ _ hD2)
    have H2 := Lib.hid (And.intro ((H0.out.1.trans (hS2.mono (fun x h => by omega))).trans (hst.mono (fun x h => h.elim))) (And.intro hP2 (And.intro hD2 (And.intro hy hyo))))
    obtain ⟨b0, b1, x1, x2, x3, x4, x5, x6, x7, lb, lx⟩ := hX2.cells
    clear hS2 hU2 hM2 hst hP2 hD2 hX2 HAc hy hyo HDc0
    go_wp2_with fail
    generalize w2.heap.size = yb at *
    generalize (w2.alloc (.cells #[.int .i64 V1, .int .i64 V2, .int .u64 V3] 43)) = w3 at *
    generalize ext own2 w2 50 = own3 at *
    ((with_reducible refine HDc.out.mono ?_); rintro e w4 ⟨rfl, own4, hS4, hU4, hM4⟩)
    obtain ⟨k1, k2⟩ := hS4.blk H2.out.2.2.2.1 H2.out.2.2.2.2 (by decide)
    have y0 := k1.cell 0
    have y1 := k1.cell 1
    have y2 := k1.cell 2
    simp only [List.getElem?_toArray, List.getElem?_cons_zero, List.getElem?_cons_succ] at y0 y1 y2
    have ly := k1.lt
    have hst := step_allocS own4 w4 (.cells #[.int .i64 V1, .int .i64 V2, .int .u64 V3] 43)
    have H3 := Lib.hid (show ∃ own' s' m' l' ms', Step (fun x => x ≠ 0 ∧ x < 50) own w own' (w4.alloc (.cells #[.int .i64 V1, .int .i64 V2, .int .u64 V3] 43)) ∧ PA own' (w4.alloc (.cells #[.int .i64 V1, .int .i64 V2, .int .u64 V3] 43)) p rp tp r s' m' l' ∧ PD own' (w4.alloc (.cells #[.int .i64 V1, .int .i64 V2, .int .u64 V3] 43)) q p2 t2 r s' m' l' ms' ∧ PI s' l' ms' ∧ ms'.length ≤ ms.length + 1 from
      ⟨own4, nextS s, m, l, ms, (H2.out.1.trans (hS4.mono (fun x h => by omega))).trans (hst.mono (fun x h => h.elim)), (H2.out.2.1.step hS4 (by omega)).step hst (fun x h => h.elim), (show PD own4 w4 q p2 t2 r (nextS s) m l ms from ⟨hM4, hU4, H2.out.2.2.1.tr.step hS4 (by decide) (by decide)⟩).step hst (fun x h => h.elim), H0.out.2.2.2.2.next, by omega⟩)
    clear hS4 hU4 hM4 H2 H0 HDc k1 k2 hst
    go_wp2
    go_ret
    exact ⟨rfl, H3.out⟩
set_option maxHeartbeats 2000000 in
theorem do_6 (hA : PA own w p rp tp r s m l) (hD : PD own w q p2 t2 r s m l ms) (hI : PI s l ms) (hms : ms.length < 4398046511103) (hbk : i64B xk) (hbs : i64B xs) (hba : xa < 18446744073709551616) (hbv : xv < 18446744073709551616) (hk : xk % 11 = 6) :
    Calls Try.prog 29 #[.agg #[.pointer (some ⟨p, 0, none⟩), .pointer (some ⟨q, 0, none⟩), .pointer (some ⟨rp, 0, none⟩), .pointer (some ⟨p2, 0, none⟩)], .agg #[.int .i64 xk, .int .i64 xd, .int .i64 xs, .int .u64 (xa : Int), .int .u64 (xv : Int), .bool xw, .int .i64 xg, .int .i64 xq]] w fun e w' => e = .returned (.bool true) ∧ ∃ own' s' m' l' ms', Step (fun x => x ≠ 0 ∧ x < 50) own w own' w' ∧ PA own' w' p rp tp r s' m' l' ∧ PD own' w' q p2 t2 r s' m' l' ms' ∧ PI s' l' ms' ∧ ms'.length ≤ ms.length + 1 := by
  have P1 := fun w => place_calls xk 11 w hbk.1 hbk.2 (by decide) (by decide)
  rw [hk] at P1
  have HP := Lib.hid P1
  have hS1 : Step (fun _ => False) own w (ext own w 50) (w.alloc (.cells #[.pointer (some ⟨p, 0, none⟩), .pointer (some ⟨q, 0, none⟩), .pointer (some ⟨rp, 0, none⟩), .pointer (some ⟨p2, 0, none⟩)] 31)) := ⟨(Upd.refl _ _).alloc _, fun b hb => ext_old _ _ _ hb⟩
  have hS2 : Step (fun _ => False) (ext own w 50) (w.alloc (.cells #[.pointer (some ⟨p, 0, none⟩), .pointer (some ⟨q, 0, none⟩), .pointer (some ⟨rp, 0, none⟩), .pointer (some ⟨p2, 0, none⟩)] 31)) (ext (ext own w 50) (w.alloc (.cells #[.pointer (some ⟨p, 0, none⟩), .pointer (some ⟨q, 0, none⟩), .pointer (some ⟨rp, 0, none⟩), .pointer (some ⟨p2, 0, none⟩)] 31)) 50) ((w.alloc (.cells #[.pointer (some ⟨p, 0, none⟩), .pointer (some ⟨q, 0, none⟩), .pointer (some ⟨rp, 0, none⟩), .pointer (some ⟨p2, 0, none⟩)] 31)).alloc (.cells #[.int .i64 xk, .int .i64 xd, .int .i64 xs, .int .u64 (xa : Int), .int .u64 (xv : Int), .bool xw, .int .i64 xg, .int .i64 xq] 54)) := ⟨(Upd.refl _ _).alloc _, fun b hb => ext_old _ _ _ hb⟩
  have hX : DX (ext (ext own w 50) (w.alloc (.cells #[.pointer (some ⟨p, 0, none⟩), .pointer (some ⟨q, 0, none⟩), .pointer (some ⟨rp, 0, none⟩), .pointer (some ⟨p2, 0, none⟩)] 31)) 50) ((w.alloc (.cells #[.pointer (some ⟨p, 0, none⟩), .pointer (some ⟨q, 0, none⟩), .pointer (some ⟨rp, 0, none⟩), .pointer (some ⟨p2, 0, none⟩)] 31)).alloc (.cells #[.int .i64 xk, .int .i64 xd, .int .i64 xs, .int .u64 (xa : Int), .int .u64 (xv : Int), .bool xw, .int .i64 xg, .int .i64 xq] 54)) w.heap.size (w.heap.size + 1) p q rp p2 xk xd xs xa xv xw xg xq := by
    obtain ⟨g1, g2⟩ := hS2.blk (Blk.new w _ _) (ext_new own w 50 (Nat.le_refl _)) (fun h => h)
    have g3 := Blk.new (w.alloc (.cells #[.pointer (some ⟨p, 0, none⟩), .pointer (some ⟨q, 0, none⟩), .pointer (some ⟨rp, 0, none⟩), .pointer (some ⟨p2, 0, none⟩)] 31)) 54 #[.int .i64 xk, .int .i64 xd, .int .i64 xs, .int .u64 (xa : Int), .int .u64 (xv : Int), .bool xw, .int .i64 xg, .int .i64 xq]
    have g4 : ext (ext own w 50) (w.alloc (.cells #[.pointer (some ⟨p, 0, none⟩), .pointer (some ⟨q, 0, none⟩), .pointer (some ⟨rp, 0, none⟩), .pointer (some ⟨p2, 0, none⟩)] 31)) 50 (w.alloc (.cells #[.pointer (some ⟨p, 0, none⟩), .pointer (some ⟨q, 0, none⟩), .pointer (some ⟨rp, 0, none⟩), .pointer (some ⟨p2, 0, none⟩)] 31)).heap.size = 50 := ext_new _ _ _ (Nat.le_refl _)
    rw [World.size_alloc] at g3 g4
    exact ⟨g1, g2, g3, g4⟩
  have hS := hS1.trans hS2
  have hA1 := hA.step hS (fun x h => h.elim)
  have hD1 := hD.step hS (fun x h => h.elim)
  obtain ⟨b0, b1, x1, x2, x3, x4, x5, x6, x7, lb, lx⟩ := hX.cells
  have H0 := Lib.hid (And.intro (hS.mono (C' := fun x => x ≠ 0 ∧ x < 50) (fun x h => h.elim)) (And.intro hA1 (And.intro hD1 (And.intro hX hI))))
  clear P1 hS1 hS2 hX hS hA1 hD1 hA hD hk hI
  go_enter Try.func29, Try.ntmps29
  go_wp2_with fail
  ((with_reducible refine (HP.out _).mono ?_); rintro e wz ⟨rfl, rfl⟩)
  clear HP
  generalize (ext (ext own w 50) (w.alloc (.cells #[.pointer (some ⟨p, 0, none⟩), .pointer (some ⟨q, 0, none⟩), .pointer (some ⟨rp, 0, none⟩), .pointer (some ⟨p2, 0, none⟩)] 31)) 50) = own1 at *
  generalize ((w.alloc (.cells #[.pointer (some ⟨p, 0, none⟩), .pointer (some ⟨q, 0, none⟩), .pointer (some ⟨rp, 0, none⟩), .pointer (some ⟨p2, 0, none⟩)] 31)).alloc (.cells #[.int .i64 xk, .int .i64 xd, .int .i64 xs, .int .u64 (xa : Int), .int .u64 (xv : Int), .bool xw, .int .i64 xg, .int .i64 xq] 54)) = w1 at *
  generalize hob : w.heap.size = ob at *
  generalize hxb : ob + 1 = xb at *
  have HAc := Lib.hid (io_Clear H0.out.2.1.u)
  go_wp2_with fail
  ((with_reducible refine HAc.out.mono ?_); rintro e w2 ⟨rfl, hS2, hU2⟩)
  have hP2 : PA own1 w2 p rp tp r { s with ov := false } m l := ⟨hU2, H0.out.2.1.mm.step hS2 (by decide), H0.out.2.1.t.step hS2 (by decide) (by decide)⟩
  have hD2 := H0.out.2.2.1.step hS2 (by omega)
  have hX2 := H0.out.2.2.2.1.step hS2 (by decide)
  obtain ⟨r2, r1⟩ := hD2.ur.put (s' := { s with ov := false }) (by decide) 15 (.bool false) (fun v => rfl)
  have HF := Lib.hid (show ∃ own' s' m' l' ms', Step (fun x => x ≠ 0 ∧ x < 50) own w own' (w2.setCell ⟨q, 15, none⟩ (.bool false)) ∧ PA own' (w2.setCell ⟨q, 15, none⟩ (.bool false)) p rp tp r s' m' l' ∧ PD own' (w2.setCell ⟨q, 15, none⟩ (.bool false)) q p2 t2 r s' m' l' ms' ∧ PI s' l' ms' ∧ ms'.length ≤ ms.length + 1 from
    ⟨own1, _, _, _, ms, (H0.out.1.trans (hS2.mono (fun x h => by omega))).trans (r2.mono (fun x h => by omega)), hP2.step r2 (by omega), ⟨hD2.mr.step r2 (by decide), r1, hD2.tr.step r2 (by decide) (by decide)⟩, H0.out.2.2.2.2.clear, by omega⟩)
  obtain ⟨b0, b1, x1, x2, x3, x4, x5, x6, x7, lb, lx⟩ := hX2.cells
  obtain ⟨_, _, _, _, _, _, q15, lq⟩ := hD2.ur.cells
  have zq := hD2.ur.froz 15
  clear hS2 hU2 hP2 hD2 hX2 r1 r2 HAc H0
  go_wp2
  go_ret
  exact ⟨rfl, HF.out⟩
end
end Go.Proofs.Ytlgcplekcmocbaa

/- citadellaw07.On.Do, kind by kind (printed by gdo.py). -/
namespace Go.Proofs.Ytlgcplekcmocbaa
set_option linter.unusedVariables false
set_option linter.unusedSimpArgs false
open Go.RowKit
set_option maxRecDepth 100000

section
variable {own : Nat → Nat} {w : World} {p q rp tp p2 t2 r : Nat} {s : Us} {m : Nat → Int} {l : List Tr} {ms : List To4} {xk xd xs xg xq : Int} {xa xv : Nat} {xw : Bool}
set_option maxHeartbeats 2000000 in
theorem do_7 (hA : PA own w p rp tp r s m l) (hD : PD own w q p2 t2 r s m l ms) (hI : PI s l ms) (hms : ms.length < 4398046511103) (hbk : i64B xk) (hbs : i64B xs) (hba : xa < 18446744073709551616) (hbv : xv < 18446744073709551616) (hk : xk % 11 = 7) :
    Calls Try.prog 29 #[.agg #[.pointer (some ⟨p, 0, none⟩), .pointer (some ⟨q, 0, none⟩), .pointer (some ⟨rp, 0, none⟩), .pointer (some ⟨p2, 0, none⟩)], .agg #[.int .i64 xk, .int .i64 xd, .int .i64 xs, .int .u64 (xa : Int), .int .u64 (xv : Int), .bool xw, .int .i64 xg, .int .i64 xq]] w fun e w' => e = .returned (.bool true) ∧ ∃ own' s' m' l' ms', Step (fun x => x ≠ 0 ∧ x < 50) own w own' w' ∧ PA own' w' p rp tp r s' m' l' ∧ PD own' w' q p2 t2 r s' m' l' ms' ∧ PI s' l' ms' ∧ ms'.length ≤ ms.length + 1 := by
  have P1 := fun w => place_calls xk 11 w hbk.1 hbk.2 (by decide) (by decide)
  rw [hk] at P1
  have HP := Lib.hid P1
  have hS1 : Step (fun _ => False) own w (ext own w 50) (w.alloc (.cells #[.pointer (some ⟨p, 0, none⟩), .pointer (some ⟨q, 0, none⟩), .pointer (some ⟨rp, 0, none⟩), .pointer (some ⟨p2, 0, none⟩)] 31)) := ⟨(Upd.refl _ _).alloc _, fun b hb => ext_old _ _ _ hb⟩
  have hS2 : Step (fun _ => False) (ext own w 50) (w.alloc (.cells #[.pointer (some ⟨p, 0, none⟩), .pointer (some ⟨q, 0, none⟩), .pointer (some ⟨rp, 0, none⟩), .pointer (some ⟨p2, 0, none⟩)] 31)) (ext (ext own w 50) (w.alloc (.cells #[.pointer (some ⟨p, 0, none⟩), .pointer (some ⟨q, 0, none⟩), .pointer (some ⟨rp, 0, none⟩), .pointer (some ⟨p2, 0, none⟩)] 31)) 50) ((w.alloc (.cells #[.pointer (some ⟨p, 0, none⟩), .pointer (some ⟨q, 0, none⟩), .pointer (some ⟨rp, 0, none⟩), .pointer (some ⟨p2, 0, none⟩)] 31)).alloc (.cells #[.int .i64 xk, .int .i64 xd, .int .i64 xs, .int .u64 (xa : Int), .int .u64 (xv : Int), .bool xw, .int .i64 xg, .int .i64 xq] 54)) := ⟨(Upd.refl _ _).alloc _, fun b hb => ext_old _ _ _ hb⟩
  have hX : DX (ext (ext own w 50) (w.alloc (.cells #[.pointer (some ⟨p, 0, none⟩), .pointer (some ⟨q, 0, none⟩), .pointer (some ⟨rp, 0, none⟩), .pointer (some ⟨p2, 0, none⟩)] 31)) 50) ((w.alloc (.cells #[.pointer (some ⟨p, 0, none⟩), .pointer (some ⟨q, 0, none⟩), .pointer (some ⟨rp, 0, none⟩), .pointer (some ⟨p2, 0, none⟩)] 31)).alloc (.cells #[.int .i64 xk, .int .i64 xd, .int .i64 xs, .int .u64 (xa : Int), .int .u64 (xv : Int), .bool xw, .int .i64 xg, .int .i64 xq] 54)) w.heap.size (w.heap.size + 1) p q rp p2 xk xd xs xa xv xw xg xq := by
    obtain ⟨g1, g2⟩ := hS2.blk (Blk.new w _ _) (ext_new own w 50 (Nat.le_refl _)) (fun h => h)
    have g3 := Blk.new (w.alloc (.cells #[.pointer (some ⟨p, 0, none⟩), .pointer (some ⟨q, 0, none⟩), .pointer (some ⟨rp, 0, none⟩), .pointer (some ⟨p2, 0, none⟩)] 31)) 54 #[.int .i64 xk, .int .i64 xd, .int .i64 xs, .int .u64 (xa : Int), .int .u64 (xv : Int), .bool xw, .int .i64 xg, .int .i64 xq]
    have g4 : ext (ext own w 50) (w.alloc (.cells #[.pointer (some ⟨p, 0, none⟩), .pointer (some ⟨q, 0, none⟩), .pointer (some ⟨rp, 0, none⟩), .pointer (some ⟨p2, 0, none⟩)] 31)) 50 (w.alloc (.cells #[.pointer (some ⟨p, 0, none⟩), .pointer (some ⟨q, 0, none⟩), .pointer (some ⟨rp, 0, none⟩), .pointer (some ⟨p2, 0, none⟩)] 31)).heap.size = 50 := ext_new _ _ _ (Nat.le_refl _)
    rw [World.size_alloc] at g3 g4
    exact ⟨g1, g2, g3, g4⟩
  have hS := hS1.trans hS2
  have hA1 := hA.step hS (fun x h => h.elim)
  have hD1 := hD.step hS (fun x h => h.elim)
  obtain ⟨b0, b1, x1, x2, x3, x4, x5, x6, x7, lb, lx⟩ := hX.cells
  have H0 := Lib.hid (And.intro (hS.mono (C' := fun x => x ≠ 0 ∧ x < 50) (fun x h => h.elim)) (And.intro hA1 (And.intro hD1 (And.intro hX hI))))
  clear P1 hS1 hS2 hX hS hA1 hD1 hA hD hk hI
  go_enter Try.func29, Try.ntmps29
  go_wp2_with fail
  ((with_reducible refine (HP.out _).mono ?_); rintro e wz ⟨rfl, rfl⟩)
  clear HP
  generalize (ext (ext own w 50) (w.alloc (.cells #[.pointer (some ⟨p, 0, none⟩), .pointer (some ⟨q, 0, none⟩), .pointer (some ⟨rp, 0, none⟩), .pointer (some ⟨p2, 0, none⟩)] 31)) 50) = own1 at *
  generalize ((w.alloc (.cells #[.pointer (some ⟨p, 0, none⟩), .pointer (some ⟨q, 0, none⟩), .pointer (some ⟨rp, 0, none⟩), .pointer (some ⟨p2, 0, none⟩)] 31)).alloc (.cells #[.int .i64 xk, .int .i64 xd, .int .i64 xs, .int .u64 (xa : Int), .int .u64 (xv : Int), .bool xw, .int .i64 xg, .int .i64 xq] 54)) = w1 at *
  generalize hob : w.heap.size = ob at *
  generalize hxb : ob + 1 = xb at *
  have HAc := Lib.hid (io_Invalidate H0.out.2.1.u H0.out.2.1.t (by decide) xd)
  go_wp2_with fail
  ((with_reducible refine HAc.out.mono ?_); rintro e w2 ⟨rfl, own2, hS2, hT2⟩)
  have hP2 : PA own2 w2 p rp tp r s m (flushT l xd) := ⟨H0.out.2.1.u.step hS2 (by decide), H0.out.2.1.mm.step hS2 (by decide), hT2⟩
  have hD2 := H0.out.2.2.1.step hS2 (by omega)
  have hX2 := H0.out.2.2.2.1.step hS2 (by decide)
  have HDS := Lib.hid (hX2.dS hD2)
  have hdr : Step (fun _ => False) own2 w2 own2 w2.drew := (Step.refl _ _ _).drew
  have hD3 := hD2.step hdr (fun x h => h.elim)
  have HB := Lib.hid (tref_Flush hD3.tr (by decide) xd)
  have H2 := Lib.hid (And.intro ((H0.out.1.trans (hS2.mono (fun x h => by omega))).trans (hdr.mono (fun x h => h.elim))) (And.intro (hP2.step hdr (fun x h => h.elim)) hD3))
  clear hS2 hT2 hP2 hD2 hX2 hdr hD3 HAc b0 b1 x1 x2 x3 x4 x5 x6 x7 lb lx
  go_wp2_with fail
  refine wpE_region (S := dS ob xb q p t2 xd xs xa xv xg xq) (s := 7) (by kernel_rfl) ?_
  have hS : (dS ob xb q p t2 xd xs xa xv xg xq) _ := HDS.out
  refine wpE_take (i := 0) (oi := { dst := some 207, op := Go.Op.fieldAddr 31 (Go.Operand.tmp 2) 1, type := 0, pos := "law.go:63", after := #[], guard := none }) (v := ?_) rfl (by kernel_rfl) (fun _ _ _ h => h) (Or.inl ⟨by rfl, fun W hW => ?_⟩) hS ?_
  rotate_left
  · obtain ⟨hw1, hw2, hw3, hw4, hw5, hw6, hw7, hw8, hw9⟩ := hW; go_simp; (try go_bits); (try rw [if_pos (by omega)]); (try with_reducible rfl)
  (try simp only [Act.put, List.setIfInBounds_toArray, List.set_cons_succ, List.set_cons_zero])
  refine wpE_take (i := 1) (oi := { dst := some 208, op := Go.Op.load 25 (Go.Operand.tmp 207), type := 25, pos := "law.go:63", after := #[{ on := 0, ground := Go.Ground.data }], guard := none }) (v := ?_) rfl (by kernel_rfl) (fun _ _ _ h => h) (Or.inl ⟨by rfl, fun W hW => ?_⟩) hS ?_
  rotate_left
  · obtain ⟨hw1, hw2, hw3, hw4, hw5, hw6, hw7, hw8, hw9⟩ := hW; go_simp; (try go_bits); (try rw [if_pos (by omega)]); (try with_reducible rfl)
  (try simp only [Act.put, List.setIfInBounds_toArray, List.set_cons_succ, List.set_cons_zero])
  refine wpE_take (i := 2) (oi := { dst := some 209, op := Go.Op.nilCheck (Go.Operand.tmp 208), type := 0, pos := "law.go:63", after := #[{ on := 1, ground := Go.Ground.data }], guard := none }) (v := ?_) rfl (by kernel_rfl) (fun _ _ _ h => h) (Or.inl ⟨by rfl, fun W hW => ?_⟩) hS ?_
  rotate_left
  · obtain ⟨hw1, hw2, hw3, hw4, hw5, hw6, hw7, hw8, hw9⟩ := hW; go_simp; (try go_bits); (try rw [if_pos (by omega)]); (try with_reducible rfl)
  (try simp only [Act.put, List.setIfInBounds_toArray, List.set_cons_succ, List.set_cons_zero])
  refine wpE_take (i := 3) (oi := { dst := some 210, op := Go.Op.fieldAddr 79 (Go.Operand.tmp 209) 1, type := 0, pos := "law.go:63", after := #[{ on := 2, ground := Go.Ground.data }], guard := none }) (v := ?_) rfl (by kernel_rfl) (fun _ _ _ h => h) (Or.inl ⟨by rfl, fun W hW => ?_⟩) hS ?_
  rotate_left
  · obtain ⟨hw1, hw2, hw3, hw4, hw5, hw6, hw7, hw8, hw9⟩ := hW; go_simp; (try go_bits); (try rw [if_pos (by omega)]); (try with_reducible rfl)
  (try simp only [Act.put, List.setIfInBounds_toArray, List.set_cons_succ, List.set_cons_zero])
  refine wpE_take (i := 4) (oi := { dst := some 211, op := Go.Op.load 75 (Go.Operand.tmp 210), type := 75, pos := "law.go:63", after := #[{ on := 3, ground := Go.Ground.data }], guard := none }) (v := ?_) rfl (by kernel_rfl) (fun _ _ _ h => h) (Or.inl ⟨by rfl, fun W hW => ?_⟩) hS ?_
  rotate_left
  · obtain ⟨hw1, hw2, hw3, hw4, hw5, hw6, hw7, hw8, hw9⟩ := hW; go_simp; (try go_bits); (try rw [if_pos (by omega)]); (try with_reducible rfl)
  (try simp only [Act.put, List.setIfInBounds_toArray, List.set_cons_succ, List.set_cons_zero])
  refine wpE_take (i := 5) (oi := { dst := some 212, op := Go.Op.fieldAddr 54 (Go.Operand.tmp 3) 1, type := 0, pos := "law.go:63", after := #[], guard := none }) (v := ?_) rfl (by kernel_rfl) (fun _ _ _ h => h) (Or.inl ⟨by rfl, fun W hW => ?_⟩) hS ?_
  rotate_left
  · obtain ⟨hw1, hw2, hw3, hw4, hw5, hw6, hw7, hw8, hw9⟩ := hW; go_simp; (try go_bits); (try rw [if_pos (by omega)]); (try with_reducible rfl)
  (try simp only [Act.put, List.setIfInBounds_toArray, List.set_cons_succ, List.set_cons_zero])
  refine wpE_take (i := 6) (oi := { dst := some 213, op := Go.Op.load 3 (Go.Operand.tmp 212), type := 3, pos := "law.go:63", after := #[{ on := 5, ground := Go.Ground.data }], guard := none }) (v := ?_) rfl (by kernel_rfl) (fun _ _ _ h => h) (Or.inl ⟨by rfl, fun W hW => ?_⟩) hS ?_
  rotate_left
  · obtain ⟨hw1, hw2, hw3, hw4, hw5, hw6, hw7, hw8, hw9⟩ := hW; go_simp; (try go_bits); (try rw [if_pos (by omega)]); (try with_reducible rfl)
  (try simp only [Act.put, List.setIfInBounds_toArray, List.set_cons_succ, List.set_cons_zero])
  refine wpE_last (oi := { dst := some 214, op := Go.Op.call { callee := Go.Callee.value (Go.Operand.func 50), args := #[Go.Operand.tmp 211, Go.Operand.tmp 213], argTypes := #[75, 3] }, type := 0, pos := "law.go:63", after := #[{ on := 4, ground := Go.Ground.data }, { on := 6, ground := Go.Ground.data }], guard := none }) rfl (by kernel_rfl) (by kernel_rfl) (by rfl) (fun K hK => ?_)
  go_simp; refine HB.out.mono ?_; rintro e w3 ⟨rfl, own3, hS3, hT3⟩
  have H3 := Lib.hid (show ∃ own' s' m' l' ms', Step (fun x => x ≠ 0 ∧ x < 50) own w own' w3 ∧ PA own' w3 p rp tp r s' m' l' ∧ PD own' w3 q p2 t2 r s' m' l' ms' ∧ PI s' l' ms' ∧ ms'.length ≤ ms.length + 1 from ⟨own3, s, m, flushT l xd, ms, H2.out.1.trans (hS3.mono (fun x h => by omega)), H2.out.2.1.step hS3 (by omega), ⟨H2.out.2.2.mr.step hS3 (by decide), H2.out.2.2.ur.step hS3 (by decide) (by decide), hT3⟩, ⟨H0.out.2.2.2.2.ok, H0.out.2.2.2.2.el.flush xd, H0.out.2.2.2.2.uq.flushT xd, H0.out.2.2.2.2.rel⟩, by omega⟩)
  clear hS3 hT3 HB H2
  refine hK _ _ ?_; clear hK K
  clear HDS
  go_wp2
  go_ret
  exact ⟨rfl, H3.out⟩
set_option maxHeartbeats 2000000 in
theorem do_8 (hA : PA own w p rp tp r s m l) (hD : PD own w q p2 t2 r s m l ms) (hI : PI s l ms) (hms : ms.length < 4398046511103) (hbk : i64B xk) (hbs : i64B xs) (hba : xa < 18446744073709551616) (hbv : xv < 18446744073709551616) (hk : xk % 11 = 8) :
    Calls Try.prog 29 #[.agg #[.pointer (some ⟨p, 0, none⟩), .pointer (some ⟨q, 0, none⟩), .pointer (some ⟨rp, 0, none⟩), .pointer (some ⟨p2, 0, none⟩)], .agg #[.int .i64 xk, .int .i64 xd, .int .i64 xs, .int .u64 (xa : Int), .int .u64 (xv : Int), .bool xw, .int .i64 xg, .int .i64 xq]] w fun e w' => e = .returned (.bool true) ∧ ∃ own' s' m' l' ms', Step (fun x => x ≠ 0 ∧ x < 50) own w own' w' ∧ PA own' w' p rp tp r s' m' l' ∧ PD own' w' q p2 t2 r s' m' l' ms' ∧ PI s' l' ms' ∧ ms'.length ≤ ms.length + 1 := by
  have P1 := fun w => place_calls xk 11 w hbk.1 hbk.2 (by decide) (by decide)
  rw [hk] at P1
  have HP := Lib.hid P1
  have hS1 : Step (fun _ => False) own w (ext own w 50) (w.alloc (.cells #[.pointer (some ⟨p, 0, none⟩), .pointer (some ⟨q, 0, none⟩), .pointer (some ⟨rp, 0, none⟩), .pointer (some ⟨p2, 0, none⟩)] 31)) := ⟨(Upd.refl _ _).alloc _, fun b hb => ext_old _ _ _ hb⟩
  have hS2 : Step (fun _ => False) (ext own w 50) (w.alloc (.cells #[.pointer (some ⟨p, 0, none⟩), .pointer (some ⟨q, 0, none⟩), .pointer (some ⟨rp, 0, none⟩), .pointer (some ⟨p2, 0, none⟩)] 31)) (ext (ext own w 50) (w.alloc (.cells #[.pointer (some ⟨p, 0, none⟩), .pointer (some ⟨q, 0, none⟩), .pointer (some ⟨rp, 0, none⟩), .pointer (some ⟨p2, 0, none⟩)] 31)) 50) ((w.alloc (.cells #[.pointer (some ⟨p, 0, none⟩), .pointer (some ⟨q, 0, none⟩), .pointer (some ⟨rp, 0, none⟩), .pointer (some ⟨p2, 0, none⟩)] 31)).alloc (.cells #[.int .i64 xk, .int .i64 xd, .int .i64 xs, .int .u64 (xa : Int), .int .u64 (xv : Int), .bool xw, .int .i64 xg, .int .i64 xq] 54)) := ⟨(Upd.refl _ _).alloc _, fun b hb => ext_old _ _ _ hb⟩
  have hX : DX (ext (ext own w 50) (w.alloc (.cells #[.pointer (some ⟨p, 0, none⟩), .pointer (some ⟨q, 0, none⟩), .pointer (some ⟨rp, 0, none⟩), .pointer (some ⟨p2, 0, none⟩)] 31)) 50) ((w.alloc (.cells #[.pointer (some ⟨p, 0, none⟩), .pointer (some ⟨q, 0, none⟩), .pointer (some ⟨rp, 0, none⟩), .pointer (some ⟨p2, 0, none⟩)] 31)).alloc (.cells #[.int .i64 xk, .int .i64 xd, .int .i64 xs, .int .u64 (xa : Int), .int .u64 (xv : Int), .bool xw, .int .i64 xg, .int .i64 xq] 54)) w.heap.size (w.heap.size + 1) p q rp p2 xk xd xs xa xv xw xg xq := by
    obtain ⟨g1, g2⟩ := hS2.blk (Blk.new w _ _) (ext_new own w 50 (Nat.le_refl _)) (fun h => h)
    have g3 := Blk.new (w.alloc (.cells #[.pointer (some ⟨p, 0, none⟩), .pointer (some ⟨q, 0, none⟩), .pointer (some ⟨rp, 0, none⟩), .pointer (some ⟨p2, 0, none⟩)] 31)) 54 #[.int .i64 xk, .int .i64 xd, .int .i64 xs, .int .u64 (xa : Int), .int .u64 (xv : Int), .bool xw, .int .i64 xg, .int .i64 xq]
    have g4 : ext (ext own w 50) (w.alloc (.cells #[.pointer (some ⟨p, 0, none⟩), .pointer (some ⟨q, 0, none⟩), .pointer (some ⟨rp, 0, none⟩), .pointer (some ⟨p2, 0, none⟩)] 31)) 50 (w.alloc (.cells #[.pointer (some ⟨p, 0, none⟩), .pointer (some ⟨q, 0, none⟩), .pointer (some ⟨rp, 0, none⟩), .pointer (some ⟨p2, 0, none⟩)] 31)).heap.size = 50 := ext_new _ _ _ (Nat.le_refl _)
    rw [World.size_alloc] at g3 g4
    exact ⟨g1, g2, g3, g4⟩
  have hS := hS1.trans hS2
  have hA1 := hA.step hS (fun x h => h.elim)
  have hD1 := hD.step hS (fun x h => h.elim)
  obtain ⟨b0, b1, x1, x2, x3, x4, x5, x6, x7, lb, lx⟩ := hX.cells
  have H0 := Lib.hid (And.intro (hS.mono (C' := fun x => x ≠ 0 ∧ x < 50) (fun x h => h.elim)) (And.intro hA1 (And.intro hD1 (And.intro hX hI))))
  clear P1 hS1 hS2 hX hS hA1 hD1 hA hD hk hI
  go_enter Try.func29, Try.ntmps29
  go_wp2_with fail
  ((with_reducible refine (HP.out _).mono ?_); rintro e wz ⟨rfl, rfl⟩)
  clear HP
  generalize (ext (ext own w 50) (w.alloc (.cells #[.pointer (some ⟨p, 0, none⟩), .pointer (some ⟨q, 0, none⟩), .pointer (some ⟨rp, 0, none⟩), .pointer (some ⟨p2, 0, none⟩)] 31)) 50) = own1 at *
  generalize ((w.alloc (.cells #[.pointer (some ⟨p, 0, none⟩), .pointer (some ⟨q, 0, none⟩), .pointer (some ⟨rp, 0, none⟩), .pointer (some ⟨p2, 0, none⟩)] 31)).alloc (.cells #[.int .i64 xk, .int .i64 xd, .int .i64 xs, .int .u64 (xa : Int), .int .u64 (xv : Int), .bool xw, .int .i64 xg, .int .i64 xq] 54)) = w1 at *
  generalize hob : w.heap.size = ob at *
  generalize hxb : ob + 1 = xb at *
  have HAc := Lib.hid (io_InvPage H0.out.2.1.u H0.out.2.1.t (by decide) xd xa)
  go_wp2_with fail
  ((with_reducible refine HAc.out.mono ?_); rintro e w2 ⟨rfl, own2, hS2, hT2⟩)
  have hP2 : PA own2 w2 p rp tp r s m (flushP l xd xa) := ⟨H0.out.2.1.u.step hS2 (by decide), H0.out.2.1.mm.step hS2 (by decide), hT2⟩
  have hD2 := H0.out.2.2.1.step hS2 (by omega)
  have hX2 := H0.out.2.2.2.1.step hS2 (by decide)
  have HDS := Lib.hid (hX2.dS hD2)
  have hdr : Step (fun _ => False) own2 w2 own2 w2.drew := (Step.refl _ _ _).drew
  have hD3 := hD2.step hdr (fun x h => h.elim)
  have HB := Lib.hid (tref_FlushPage hD3.tr (by decide) xd xa)
  have H2 := Lib.hid (And.intro ((H0.out.1.trans (hS2.mono (fun x h => by omega))).trans (hdr.mono (fun x h => h.elim))) (And.intro (hP2.step hdr (fun x h => h.elim)) hD3))
  clear hS2 hT2 hP2 hD2 hX2 hdr hD3 HAc b0 b1 x1 x2 x3 x4 x5 x6 x7 lb lx
  go_wp2_with fail
  refine wpE_region (S := dS ob xb q p t2 xd xs xa xv xg xq) (s := 9) (by kernel_rfl) ?_
  have hS : (dS ob xb q p t2 xd xs xa xv xg xq) _ := HDS.out
  refine wpE_take (i := 0) (oi := { dst := some 224, op := Go.Op.fieldAddr 31 (Go.Operand.tmp 2) 1, type := 0, pos := "law.go:66", after := #[], guard := none }) (v := ?_) rfl (by kernel_rfl) (fun _ _ _ h => h) (Or.inl ⟨by rfl, fun W hW => ?_⟩) hS ?_
  rotate_left
  · obtain ⟨hw1, hw2, hw3, hw4, hw5, hw6, hw7, hw8, hw9⟩ := hW; go_simp; (try go_bits); (try rw [if_pos (by omega)]); (try with_reducible rfl)
  (try simp only [Act.put, List.setIfInBounds_toArray, List.set_cons_succ, List.set_cons_zero])
  refine wpE_take (i := 1) (oi := { dst := some 225, op := Go.Op.load 25 (Go.Operand.tmp 224), type := 25, pos := "law.go:66", after := #[{ on := 0, ground := Go.Ground.data }], guard := none }) (v := ?_) rfl (by kernel_rfl) (fun _ _ _ h => h) (Or.inl ⟨by rfl, fun W hW => ?_⟩) hS ?_
  rotate_left
  · obtain ⟨hw1, hw2, hw3, hw4, hw5, hw6, hw7, hw8, hw9⟩ := hW; go_simp; (try go_bits); (try rw [if_pos (by omega)]); (try with_reducible rfl)
  (try simp only [Act.put, List.setIfInBounds_toArray, List.set_cons_succ, List.set_cons_zero])
  refine wpE_take (i := 2) (oi := { dst := some 226, op := Go.Op.nilCheck (Go.Operand.tmp 225), type := 0, pos := "law.go:66", after := #[{ on := 1, ground := Go.Ground.data }], guard := none }) (v := ?_) rfl (by kernel_rfl) (fun _ _ _ h => h) (Or.inl ⟨by rfl, fun W hW => ?_⟩) hS ?_
  rotate_left
  · obtain ⟨hw1, hw2, hw3, hw4, hw5, hw6, hw7, hw8, hw9⟩ := hW; go_simp; (try go_bits); (try rw [if_pos (by omega)]); (try with_reducible rfl)
  (try simp only [Act.put, List.setIfInBounds_toArray, List.set_cons_succ, List.set_cons_zero])
  refine wpE_take (i := 3) (oi := { dst := some 227, op := Go.Op.fieldAddr 79 (Go.Operand.tmp 226) 1, type := 0, pos := "law.go:66", after := #[{ on := 2, ground := Go.Ground.data }], guard := none }) (v := ?_) rfl (by kernel_rfl) (fun _ _ _ h => h) (Or.inl ⟨by rfl, fun W hW => ?_⟩) hS ?_
  rotate_left
  · obtain ⟨hw1, hw2, hw3, hw4, hw5, hw6, hw7, hw8, hw9⟩ := hW; go_simp; (try go_bits); (try rw [if_pos (by omega)]); (try with_reducible rfl)
  (try simp only [Act.put, List.setIfInBounds_toArray, List.set_cons_succ, List.set_cons_zero])
  refine wpE_take (i := 4) (oi := { dst := some 228, op := Go.Op.load 75 (Go.Operand.tmp 227), type := 75, pos := "law.go:66", after := #[{ on := 3, ground := Go.Ground.data }], guard := none }) (v := ?_) rfl (by kernel_rfl) (fun _ _ _ h => h) (Or.inl ⟨by rfl, fun W hW => ?_⟩) hS ?_
  rotate_left
  · obtain ⟨hw1, hw2, hw3, hw4, hw5, hw6, hw7, hw8, hw9⟩ := hW; go_simp; (try go_bits); (try rw [if_pos (by omega)]); (try with_reducible rfl)
  (try simp only [Act.put, List.setIfInBounds_toArray, List.set_cons_succ, List.set_cons_zero])
  refine wpE_take (i := 5) (oi := { dst := some 229, op := Go.Op.fieldAddr 54 (Go.Operand.tmp 3) 1, type := 0, pos := "law.go:66", after := #[], guard := none }) (v := ?_) rfl (by kernel_rfl) (fun _ _ _ h => h) (Or.inl ⟨by rfl, fun W hW => ?_⟩) hS ?_
  rotate_left
  · obtain ⟨hw1, hw2, hw3, hw4, hw5, hw6, hw7, hw8, hw9⟩ := hW; go_simp; (try go_bits); (try rw [if_pos (by omega)]); (try with_reducible rfl)
  (try simp only [Act.put, List.setIfInBounds_toArray, List.set_cons_succ, List.set_cons_zero])
  refine wpE_take (i := 6) (oi := { dst := some 230, op := Go.Op.load 3 (Go.Operand.tmp 229), type := 3, pos := "law.go:66", after := #[{ on := 5, ground := Go.Ground.data }], guard := none }) (v := ?_) rfl (by kernel_rfl) (fun _ _ _ h => h) (Or.inl ⟨by rfl, fun W hW => ?_⟩) hS ?_
  rotate_left
  · obtain ⟨hw1, hw2, hw3, hw4, hw5, hw6, hw7, hw8, hw9⟩ := hW; go_simp; (try go_bits); (try rw [if_pos (by omega)]); (try with_reducible rfl)
  (try simp only [Act.put, List.setIfInBounds_toArray, List.set_cons_succ, List.set_cons_zero])
  refine wpE_take (i := 7) (oi := { dst := some 231, op := Go.Op.fieldAddr 54 (Go.Operand.tmp 3) 3, type := 0, pos := "law.go:66", after := #[], guard := none }) (v := ?_) rfl (by kernel_rfl) (fun _ _ _ h => h) (Or.inl ⟨by rfl, fun W hW => ?_⟩) hS ?_
  rotate_left
  · obtain ⟨hw1, hw2, hw3, hw4, hw5, hw6, hw7, hw8, hw9⟩ := hW; go_simp; (try go_bits); (try rw [if_pos (by omega)]); (try with_reducible rfl)
  (try simp only [Act.put, List.setIfInBounds_toArray, List.set_cons_succ, List.set_cons_zero])
  refine wpE_take (i := 8) (oi := { dst := some 232, op := Go.Op.load 22 (Go.Operand.tmp 231), type := 22, pos := "law.go:66", after := #[{ on := 7, ground := Go.Ground.data }], guard := none }) (v := ?_) rfl (by kernel_rfl) (fun _ _ _ h => h) (Or.inl ⟨by rfl, fun W hW => ?_⟩) hS ?_
  rotate_left
  · obtain ⟨hw1, hw2, hw3, hw4, hw5, hw6, hw7, hw8, hw9⟩ := hW; go_simp; (try go_bits); (try rw [if_pos (by omega)]); (try with_reducible rfl)
  (try simp only [Act.put, List.setIfInBounds_toArray, List.set_cons_succ, List.set_cons_zero])
  refine wpE_last (oi := { dst := some 233, op := Go.Op.call { callee := Go.Callee.value (Go.Operand.func 52), args := #[Go.Operand.tmp 228, Go.Operand.tmp 230, Go.Operand.tmp 232], argTypes := #[75, 3, 22] }, type := 0, pos := "law.go:66", after := #[{ on := 4, ground := Go.Ground.data }, { on := 6, ground := Go.Ground.data }, { on := 8, ground := Go.Ground.data }], guard := none }) rfl (by kernel_rfl) (by kernel_rfl) (by rfl) (fun K hK => ?_)
  go_simp; refine HB.out.mono ?_; rintro e w3 ⟨rfl, own3, hS3, hT3⟩
  have H3 := Lib.hid (show ∃ own' s' m' l' ms', Step (fun x => x ≠ 0 ∧ x < 50) own w own' w3 ∧ PA own' w3 p rp tp r s' m' l' ∧ PD own' w3 q p2 t2 r s' m' l' ms' ∧ PI s' l' ms' ∧ ms'.length ≤ ms.length + 1 from ⟨own3, s, m, flushP l xd xa, ms, H2.out.1.trans (hS3.mono (fun x h => by omega)), H2.out.2.1.step hS3 (by omega), ⟨H2.out.2.2.mr.step hS3 (by decide), H2.out.2.2.ur.step hS3 (by decide) (by decide), hT3⟩, ⟨H0.out.2.2.2.2.ok, H0.out.2.2.2.2.el.flushP xd xa, H0.out.2.2.2.2.uq.flushP xd xa, H0.out.2.2.2.2.rel⟩, by omega⟩)
  clear hS3 hT3 HB H2
  refine hK _ _ ?_; clear hK K
  clear HDS
  go_wp2
  go_ret
  exact ⟨rfl, H3.out⟩
set_option maxHeartbeats 2000000 in
theorem do_9 (hA : PA own w p rp tp r s m l) (hD : PD own w q p2 t2 r s m l ms) (hI : PI s l ms) (hms : ms.length < 4398046511103) (hbk : i64B xk) (hbs : i64B xs) (hba : xa < 18446744073709551616) (hbv : xv < 18446744073709551616) (hk : xk % 11 = 9) :
    Calls Try.prog 29 #[.agg #[.pointer (some ⟨p, 0, none⟩), .pointer (some ⟨q, 0, none⟩), .pointer (some ⟨rp, 0, none⟩), .pointer (some ⟨p2, 0, none⟩)], .agg #[.int .i64 xk, .int .i64 xd, .int .i64 xs, .int .u64 (xa : Int), .int .u64 (xv : Int), .bool xw, .int .i64 xg, .int .i64 xq]] w fun e w' => e = .returned (.bool true) ∧ ∃ own' s' m' l' ms', Step (fun x => x ≠ 0 ∧ x < 50) own w own' w' ∧ PA own' w' p rp tp r s' m' l' ∧ PD own' w' q p2 t2 r s' m' l' ms' ∧ PI s' l' ms' ∧ ms'.length ≤ ms.length + 1 := by
  have P1 := fun w => place_calls xk 11 w hbk.1 hbk.2 (by decide) (by decide)
  rw [hk] at P1
  have HP := Lib.hid P1
  have hS1 : Step (fun _ => False) own w (ext own w 50) (w.alloc (.cells #[.pointer (some ⟨p, 0, none⟩), .pointer (some ⟨q, 0, none⟩), .pointer (some ⟨rp, 0, none⟩), .pointer (some ⟨p2, 0, none⟩)] 31)) := ⟨(Upd.refl _ _).alloc _, fun b hb => ext_old _ _ _ hb⟩
  have hS2 : Step (fun _ => False) (ext own w 50) (w.alloc (.cells #[.pointer (some ⟨p, 0, none⟩), .pointer (some ⟨q, 0, none⟩), .pointer (some ⟨rp, 0, none⟩), .pointer (some ⟨p2, 0, none⟩)] 31)) (ext (ext own w 50) (w.alloc (.cells #[.pointer (some ⟨p, 0, none⟩), .pointer (some ⟨q, 0, none⟩), .pointer (some ⟨rp, 0, none⟩), .pointer (some ⟨p2, 0, none⟩)] 31)) 50) ((w.alloc (.cells #[.pointer (some ⟨p, 0, none⟩), .pointer (some ⟨q, 0, none⟩), .pointer (some ⟨rp, 0, none⟩), .pointer (some ⟨p2, 0, none⟩)] 31)).alloc (.cells #[.int .i64 xk, .int .i64 xd, .int .i64 xs, .int .u64 (xa : Int), .int .u64 (xv : Int), .bool xw, .int .i64 xg, .int .i64 xq] 54)) := ⟨(Upd.refl _ _).alloc _, fun b hb => ext_old _ _ _ hb⟩
  have hX : DX (ext (ext own w 50) (w.alloc (.cells #[.pointer (some ⟨p, 0, none⟩), .pointer (some ⟨q, 0, none⟩), .pointer (some ⟨rp, 0, none⟩), .pointer (some ⟨p2, 0, none⟩)] 31)) 50) ((w.alloc (.cells #[.pointer (some ⟨p, 0, none⟩), .pointer (some ⟨q, 0, none⟩), .pointer (some ⟨rp, 0, none⟩), .pointer (some ⟨p2, 0, none⟩)] 31)).alloc (.cells #[.int .i64 xk, .int .i64 xd, .int .i64 xs, .int .u64 (xa : Int), .int .u64 (xv : Int), .bool xw, .int .i64 xg, .int .i64 xq] 54)) w.heap.size (w.heap.size + 1) p q rp p2 xk xd xs xa xv xw xg xq := by
    obtain ⟨g1, g2⟩ := hS2.blk (Blk.new w _ _) (ext_new own w 50 (Nat.le_refl _)) (fun h => h)
    have g3 := Blk.new (w.alloc (.cells #[.pointer (some ⟨p, 0, none⟩), .pointer (some ⟨q, 0, none⟩), .pointer (some ⟨rp, 0, none⟩), .pointer (some ⟨p2, 0, none⟩)] 31)) 54 #[.int .i64 xk, .int .i64 xd, .int .i64 xs, .int .u64 (xa : Int), .int .u64 (xv : Int), .bool xw, .int .i64 xg, .int .i64 xq]
    have g4 : ext (ext own w 50) (w.alloc (.cells #[.pointer (some ⟨p, 0, none⟩), .pointer (some ⟨q, 0, none⟩), .pointer (some ⟨rp, 0, none⟩), .pointer (some ⟨p2, 0, none⟩)] 31)) 50 (w.alloc (.cells #[.pointer (some ⟨p, 0, none⟩), .pointer (some ⟨q, 0, none⟩), .pointer (some ⟨rp, 0, none⟩), .pointer (some ⟨p2, 0, none⟩)] 31)).heap.size = 50 := ext_new _ _ _ (Nat.le_refl _)
    rw [World.size_alloc] at g3 g4
    exact ⟨g1, g2, g3, g4⟩
  have hS := hS1.trans hS2
  have hA1 := hA.step hS (fun x h => h.elim)
  have hD1 := hD.step hS (fun x h => h.elim)
  obtain ⟨b0, b1, x1, x2, x3, x4, x5, x6, x7, lb, lx⟩ := hX.cells
  have H0 := Lib.hid (And.intro (hS.mono (C' := fun x => x ≠ 0 ∧ x < 50) (fun x h => h.elim)) (And.intro hA1 (And.intro hD1 (And.intro hX hI))))
  clear P1 hS1 hS2 hX hS hA1 hD1 hA hD hk hI
  go_enter Try.func29, Try.ntmps29
  go_wp2_with fail
  ((with_reducible refine (HP.out _).mono ?_); rintro e wz ⟨rfl, rfl⟩)
  clear HP
  generalize (ext (ext own w 50) (w.alloc (.cells #[.pointer (some ⟨p, 0, none⟩), .pointer (some ⟨q, 0, none⟩), .pointer (some ⟨rp, 0, none⟩), .pointer (some ⟨p2, 0, none⟩)] 31)) 50) = own1 at *
  generalize ((w.alloc (.cells #[.pointer (some ⟨p, 0, none⟩), .pointer (some ⟨q, 0, none⟩), .pointer (some ⟨rp, 0, none⟩), .pointer (some ⟨p2, 0, none⟩)] 31)).alloc (.cells #[.int .i64 xk, .int .i64 xd, .int .i64 xs, .int .u64 (xa : Int), .int .u64 (xv : Int), .bool xw, .int .i64 xg, .int .i64 xq] 54)) = w1 at *
  generalize hob : w.heap.size = ob at *
  generalize hxb : ob + 1 = xb at *
  have hdr : Step (fun _ => False) own1 w1 own1 w1.drew := (Step.refl _ _ _).drew
  have Hd := Lib.hid (And.intro (H0.out.1.trans (hdr.mono (fun x h => h.elim))) (And.intro (H0.out.2.1.step hdr (fun x h => h.elim)) (And.intro (H0.out.2.2.1.step hdr (fun x h => h.elim)) (And.intro (H0.out.2.2.2.1.step hdr (fun h => h)) H0.out.2.2.2.2))))
  have HDS := Lib.hid (H0.out.2.2.2.1.dS H0.out.2.2.1)
  clear hdr
  have HA := Lib.hid (io_EvictX Hd.out.2.1.u Hd.out.2.1.t (by decide) xs)
  go_wp2_with fail
  refine wpE_region (S := dS ob xb q p t2 xd xs xa xv xg xq) (s := 14) (by kernel_rfl) ?_
  have hS : (dS ob xb q p t2 xd xs xa xv xg xq) _ := HDS.out
  refine wpE_take (i := 0) (oi := { dst := some 236, op := Go.Op.fieldAddr 31 (Go.Operand.tmp 2) 0, type := 0, pos := "law.go:68", after := #[], guard := none }) (v := ?_) rfl (by kernel_rfl) (fun _ _ _ h => h) (Or.inl ⟨by rfl, fun W hW => ?_⟩) hS ?_
  rotate_left
  · obtain ⟨hw1, hw2, hw3, hw4, hw5, hw6, hw7, hw8, hw9⟩ := hW; go_simp; (try go_bits); (try rw [if_pos (by omega)]); (try with_reducible rfl)
  (try simp only [Act.put, List.setIfInBounds_toArray, List.set_cons_succ, List.set_cons_zero])
  refine wpE_take (i := 1) (oi := { dst := some 237, op := Go.Op.load 24 (Go.Operand.tmp 236), type := 24, pos := "law.go:68", after := #[{ on := 0, ground := Go.Ground.data }], guard := none }) (v := ?_) rfl (by kernel_rfl) (fun _ _ _ h => h) (Or.inl ⟨by rfl, fun W hW => ?_⟩) hS ?_
  rotate_left
  · obtain ⟨hw1, hw2, hw3, hw4, hw5, hw6, hw7, hw8, hw9⟩ := hW; go_simp; (try go_bits); (try rw [if_pos (by omega)]); (try with_reducible rfl)
  (try simp only [Act.put, List.setIfInBounds_toArray, List.set_cons_succ, List.set_cons_zero])
  refine wpE_take (i := 2) (oi := { dst := some 238, op := Go.Op.fieldAddr 54 (Go.Operand.tmp 3) 2, type := 0, pos := "law.go:68", after := #[], guard := none }) (v := ?_) rfl (by kernel_rfl) (fun _ _ _ h => h) (Or.inl ⟨by rfl, fun W hW => ?_⟩) hS ?_
  rotate_left
  · obtain ⟨hw1, hw2, hw3, hw4, hw5, hw6, hw7, hw8, hw9⟩ := hW; go_simp; (try go_bits); (try rw [if_pos (by omega)]); (try with_reducible rfl)
  (try simp only [Act.put, List.setIfInBounds_toArray, List.set_cons_succ, List.set_cons_zero])
  refine wpE_take (i := 3) (oi := { dst := some 239, op := Go.Op.load 3 (Go.Operand.tmp 238), type := 3, pos := "law.go:68", after := #[{ on := 2, ground := Go.Ground.data }], guard := none }) (v := ?_) rfl (by kernel_rfl) (fun _ _ _ h => h) (Or.inl ⟨by rfl, fun W hW => ?_⟩) hS ?_
  rotate_left
  · obtain ⟨hw1, hw2, hw3, hw4, hw5, hw6, hw7, hw8, hw9⟩ := hW; go_simp; (try go_bits); (try rw [if_pos (by omega)]); (try with_reducible rfl)
  (try simp only [Act.put, List.setIfInBounds_toArray, List.set_cons_succ, List.set_cons_zero])
  refine wpE_take (i := 5) (oi := { dst := some 241, op := Go.Op.fieldAddr 31 (Go.Operand.tmp 2) 1, type := 0, pos := "law.go:68", after := #[], guard := none }) (v := ?_) rfl (by kernel_rfl) (fun _ _ _ h => h) (Or.inl ⟨by rfl, fun W hW => ?_⟩) hS ?_
  rotate_left
  · obtain ⟨hw1, hw2, hw3, hw4, hw5, hw6, hw7, hw8, hw9⟩ := hW; go_simp; (try go_bits); (try rw [if_pos (by omega)]); (try with_reducible rfl)
  (try simp only [Act.put, List.setIfInBounds_toArray, List.set_cons_succ, List.set_cons_zero])
  refine wpE_take (i := 6) (oi := { dst := some 242, op := Go.Op.load 25 (Go.Operand.tmp 241), type := 25, pos := "law.go:68", after := #[{ on := 5, ground := Go.Ground.data }], guard := none }) (v := ?_) rfl (by kernel_rfl) (fun _ _ _ h => h) (Or.inl ⟨by rfl, fun W hW => ?_⟩) hS ?_
  rotate_left
  · obtain ⟨hw1, hw2, hw3, hw4, hw5, hw6, hw7, hw8, hw9⟩ := hW; go_simp; (try go_bits); (try rw [if_pos (by omega)]); (try with_reducible rfl)
  (try simp only [Act.put, List.setIfInBounds_toArray, List.set_cons_succ, List.set_cons_zero])
  refine wpE_take (i := 7) (oi := { dst := some 243, op := Go.Op.nilCheck (Go.Operand.tmp 242), type := 0, pos := "law.go:68", after := #[{ on := 6, ground := Go.Ground.data }], guard := none }) (v := ?_) rfl (by kernel_rfl) (fun _ _ _ h => h) (Or.inl ⟨by rfl, fun W hW => ?_⟩) hS ?_
  rotate_left
  · obtain ⟨hw1, hw2, hw3, hw4, hw5, hw6, hw7, hw8, hw9⟩ := hW; go_simp; (try go_bits); (try rw [if_pos (by omega)]); (try with_reducible rfl)
  (try simp only [Act.put, List.setIfInBounds_toArray, List.set_cons_succ, List.set_cons_zero])
  refine wpE_take (i := 8) (oi := { dst := some 244, op := Go.Op.fieldAddr 79 (Go.Operand.tmp 243) 1, type := 0, pos := "law.go:68", after := #[{ on := 7, ground := Go.Ground.data }], guard := none }) (v := ?_) rfl (by kernel_rfl) (fun _ _ _ h => h) (Or.inl ⟨by rfl, fun W hW => ?_⟩) hS ?_
  rotate_left
  · obtain ⟨hw1, hw2, hw3, hw4, hw5, hw6, hw7, hw8, hw9⟩ := hW; go_simp; (try go_bits); (try rw [if_pos (by omega)]); (try with_reducible rfl)
  (try simp only [Act.put, List.setIfInBounds_toArray, List.set_cons_succ, List.set_cons_zero])
  refine wpE_take (i := 9) (oi := { dst := some 245, op := Go.Op.load 75 (Go.Operand.tmp 244), type := 75, pos := "law.go:68", after := #[{ on := 8, ground := Go.Ground.data }], guard := none }) (v := ?_) rfl (by kernel_rfl) (fun _ _ _ h => h) (Or.inl ⟨by rfl, fun W hW => ?_⟩) hS ?_
  rotate_left
  · obtain ⟨hw1, hw2, hw3, hw4, hw5, hw6, hw7, hw8, hw9⟩ := hW; go_simp; (try go_bits); (try rw [if_pos (by omega)]); (try with_reducible rfl)
  (try simp only [Act.put, List.setIfInBounds_toArray, List.set_cons_succ, List.set_cons_zero])
  refine wpE_take (i := 10) (oi := { dst := some 246, op := Go.Op.fieldAddr 54 (Go.Operand.tmp 3) 2, type := 0, pos := "law.go:68", after := #[], guard := none }) (v := ?_) rfl (by kernel_rfl) (fun _ _ _ h => h) (Or.inl ⟨by rfl, fun W hW => ?_⟩) hS ?_
  rotate_left
  · obtain ⟨hw1, hw2, hw3, hw4, hw5, hw6, hw7, hw8, hw9⟩ := hW; go_simp; (try go_bits); (try rw [if_pos (by omega)]); (try with_reducible rfl)
  (try simp only [Act.put, List.setIfInBounds_toArray, List.set_cons_succ, List.set_cons_zero])
  refine wpE_take (i := 11) (oi := { dst := some 247, op := Go.Op.load 3 (Go.Operand.tmp 246), type := 3, pos := "law.go:68", after := #[{ on := 10, ground := Go.Ground.data }], guard := none }) (v := ?_) rfl (by kernel_rfl) (fun _ _ _ h => h) (Or.inl ⟨by rfl, fun W hW => ?_⟩) hS ?_
  rotate_left
  · obtain ⟨hw1, hw2, hw3, hw4, hw5, hw6, hw7, hw8, hw9⟩ := hW; go_simp; (try go_bits); (try rw [if_pos (by omega)]); (try with_reducible rfl)
  (try simp only [Act.put, List.setIfInBounds_toArray, List.set_cons_succ, List.set_cons_zero])
  refine wpE_only (i := 4) (oi := { dst := some 240, op := Go.Op.call { callee := Go.Callee.value (Go.Operand.func 53), args := #[Go.Operand.tmp 237, Go.Operand.tmp 239], argTypes := #[24, 3] }, type := 4, pos := "law.go:68", after := #[{ on := 1, ground := Go.Ground.data }, { on := 3, ground := Go.Ground.data }], guard := none }) rfl (by kernel_rfl) (by rfl) (fun K hK => ?_)
  go_simp; refine HA.out.mono ?_; rintro e w2 ⟨rfl, own2, hS2, hT2⟩
  have hP2 : PA own2 w2 p rp tp r s m (evictT l xs) := ⟨Hd.out.2.1.u.step hS2 (by decide), Hd.out.2.1.mm.step hS2 (by decide), hT2⟩
  have hD2 := Hd.out.2.2.1.step hS2 (by omega)
  have hX2 := Hd.out.2.2.2.1.step hS2 (by decide)
  have HB := Lib.hid (tref_Evict hD2.tr (by decide) Hd.out.2.2.2.2.uq xs)
  have H2 := Lib.hid (And.intro (Hd.out.1.trans (hS2.mono (fun x h => by omega))) (And.intro hP2 (And.intro hD2 hX2)))
  have hS := hX2.dS hD2
  clear hS2 hT2 hP2 hD2 hX2 HA
  refine hK _ _ hS ?_; clear hK K
  (try simp only [Act.put, List.setIfInBounds_toArray, List.set_cons_succ, List.set_cons_zero])
  refine wpE_only (i := 12) (oi := { dst := some 248, op := Go.Op.call { callee := Go.Callee.value (Go.Operand.func 54), args := #[Go.Operand.tmp 245, Go.Operand.tmp 247], argTypes := #[75, 3] }, type := 4, pos := "law.go:68", after := #[{ on := 9, ground := Go.Ground.data }, { on := 11, ground := Go.Ground.data }, { on := 4, ground := Go.Ground.chain }], guard := none }) rfl (by kernel_rfl) (by rfl) (fun K hK => ?_)
  go_simp; refine HB.out.mono ?_; rintro e w3 ⟨rfl, own3, hS3, hT3⟩
  have hD3 : PD own3 w3 q p2 t2 r s m (evictT l xs) ms := ⟨H2.out.2.2.1.mr.step hS3 (by decide), H2.out.2.2.1.ur.step hS3 (by decide) (by decide), hT3⟩
  have hP3 := H2.out.2.1.step hS3 (by omega)
  have hX3 := H2.out.2.2.2.step hS3 (by decide)
  have H3 := Lib.hid (And.intro (H2.out.1.trans (hS3.mono (fun x h => by omega))) (And.intro hP3 hD3))
  have hS := hX3.dS hD3
  clear hS3 hT3 hP3 hD3 hX3 HB
  refine hK _ _ hS ?_; clear hK K
  (try simp only [Act.put, List.setIfInBounds_toArray, List.set_cons_succ, List.set_cons_zero])
  refine wpE_take (i := 13) (oi := { dst := some 249, op := Go.Op.binOp Go.BinOp.eql 4 (Go.Operand.tmp 240) (Go.Operand.tmp 248) 4, type := 4, pos := "law.go:68", after := #[{ on := 4, ground := Go.Ground.data }, { on := 12, ground := Go.Ground.data }], guard := none }) (v := ?_) rfl (by kernel_rfl) (fun _ _ _ h => h) (Or.inl ⟨by rfl, fun W hW => ?_⟩) hS ?_
  rotate_left
  · obtain ⟨hw1, hw2, hw3, hw4, hw5, hw6, hw7, hw8, hw9⟩ := hW; go_simp; (try go_bits); (try rw [if_pos (by omega)]); (try with_reducible rfl)
  (try simp only [Act.put, List.setIfInBounds_toArray, List.set_cons_succ, List.set_cons_zero])
  refine wpE_last (oi := { dst := some 4, op := Go.Op.assign (Go.Operand.tmp 249), type := 4, pos := "law.go:68", after := #[{ on := 13, ground := Go.Ground.data }, { on := 12, ground := Go.Ground.chain }, { on := 0, ground := Go.Ground.phase }, { on := 1, ground := Go.Ground.phase }, { on := 2, ground := Go.Ground.phase }, { on := 3, ground := Go.Ground.phase }, { on := 4, ground := Go.Ground.phase }, { on := 5, ground := Go.Ground.phase }, { on := 6, ground := Go.Ground.phase }, { on := 7, ground := Go.Ground.phase }, { on := 8, ground := Go.Ground.phase }, { on := 9, ground := Go.Ground.phase }, { on := 10, ground := Go.Ground.phase }, { on := 11, ground := Go.Ground.phase }, { on := 12, ground := Go.Ground.phase }, { on := 13, ground := Go.Ground.phase }], guard := none }) rfl (by kernel_rfl) (by kernel_rfl) (by rfl) (fun K hK => ?_)
  go_simp; (try go_bits); refine hK _ _ ?_; clear hK K
  clear hS
  go_wp2
  go_ret
  exact ⟨by first | rfl | simp, own3, _, _, _, ms, H3.out.1, H3.out.2.1, H3.out.2.2, ⟨Hd.out.2.2.2.2.ok, Hd.out.2.2.2.2.el.evict xs, Hd.out.2.2.2.2.uq.evict xs, Hd.out.2.2.2.2.rel⟩, by omega⟩
set_option maxHeartbeats 2000000 in
theorem do_10 (hA : PA own w p rp tp r s m l) (hD : PD own w q p2 t2 r s m l ms) (hI : PI s l ms) (hms : ms.length < 4398046511103) (hbk : i64B xk) (hbs : i64B xs) (hba : xa < 18446744073709551616) (hbv : xv < 18446744073709551616) (hk : xk % 11 = 10) :
    Calls Try.prog 29 #[.agg #[.pointer (some ⟨p, 0, none⟩), .pointer (some ⟨q, 0, none⟩), .pointer (some ⟨rp, 0, none⟩), .pointer (some ⟨p2, 0, none⟩)], .agg #[.int .i64 xk, .int .i64 xd, .int .i64 xs, .int .u64 (xa : Int), .int .u64 (xv : Int), .bool xw, .int .i64 xg, .int .i64 xq]] w fun e w' => e = .returned (.bool true) ∧ ∃ own' s' m' l' ms', Step (fun x => x ≠ 0 ∧ x < 50) own w own' w' ∧ PA own' w' p rp tp r s' m' l' ∧ PD own' w' q p2 t2 r s' m' l' ms' ∧ PI s' l' ms' ∧ ms'.length ≤ ms.length + 1 := by
  have P1 := fun w => place_calls xk 11 w hbk.1 hbk.2 (by decide) (by decide)
  rw [hk] at P1
  have HP := Lib.hid P1
  have hS1 : Step (fun _ => False) own w (ext own w 50) (w.alloc (.cells #[.pointer (some ⟨p, 0, none⟩), .pointer (some ⟨q, 0, none⟩), .pointer (some ⟨rp, 0, none⟩), .pointer (some ⟨p2, 0, none⟩)] 31)) := ⟨(Upd.refl _ _).alloc _, fun b hb => ext_old _ _ _ hb⟩
  have hS2 : Step (fun _ => False) (ext own w 50) (w.alloc (.cells #[.pointer (some ⟨p, 0, none⟩), .pointer (some ⟨q, 0, none⟩), .pointer (some ⟨rp, 0, none⟩), .pointer (some ⟨p2, 0, none⟩)] 31)) (ext (ext own w 50) (w.alloc (.cells #[.pointer (some ⟨p, 0, none⟩), .pointer (some ⟨q, 0, none⟩), .pointer (some ⟨rp, 0, none⟩), .pointer (some ⟨p2, 0, none⟩)] 31)) 50) ((w.alloc (.cells #[.pointer (some ⟨p, 0, none⟩), .pointer (some ⟨q, 0, none⟩), .pointer (some ⟨rp, 0, none⟩), .pointer (some ⟨p2, 0, none⟩)] 31)).alloc (.cells #[.int .i64 xk, .int .i64 xd, .int .i64 xs, .int .u64 (xa : Int), .int .u64 (xv : Int), .bool xw, .int .i64 xg, .int .i64 xq] 54)) := ⟨(Upd.refl _ _).alloc _, fun b hb => ext_old _ _ _ hb⟩
  have hX : DX (ext (ext own w 50) (w.alloc (.cells #[.pointer (some ⟨p, 0, none⟩), .pointer (some ⟨q, 0, none⟩), .pointer (some ⟨rp, 0, none⟩), .pointer (some ⟨p2, 0, none⟩)] 31)) 50) ((w.alloc (.cells #[.pointer (some ⟨p, 0, none⟩), .pointer (some ⟨q, 0, none⟩), .pointer (some ⟨rp, 0, none⟩), .pointer (some ⟨p2, 0, none⟩)] 31)).alloc (.cells #[.int .i64 xk, .int .i64 xd, .int .i64 xs, .int .u64 (xa : Int), .int .u64 (xv : Int), .bool xw, .int .i64 xg, .int .i64 xq] 54)) w.heap.size (w.heap.size + 1) p q rp p2 xk xd xs xa xv xw xg xq := by
    obtain ⟨g1, g2⟩ := hS2.blk (Blk.new w _ _) (ext_new own w 50 (Nat.le_refl _)) (fun h => h)
    have g3 := Blk.new (w.alloc (.cells #[.pointer (some ⟨p, 0, none⟩), .pointer (some ⟨q, 0, none⟩), .pointer (some ⟨rp, 0, none⟩), .pointer (some ⟨p2, 0, none⟩)] 31)) 54 #[.int .i64 xk, .int .i64 xd, .int .i64 xs, .int .u64 (xa : Int), .int .u64 (xv : Int), .bool xw, .int .i64 xg, .int .i64 xq]
    have g4 : ext (ext own w 50) (w.alloc (.cells #[.pointer (some ⟨p, 0, none⟩), .pointer (some ⟨q, 0, none⟩), .pointer (some ⟨rp, 0, none⟩), .pointer (some ⟨p2, 0, none⟩)] 31)) 50 (w.alloc (.cells #[.pointer (some ⟨p, 0, none⟩), .pointer (some ⟨q, 0, none⟩), .pointer (some ⟨rp, 0, none⟩), .pointer (some ⟨p2, 0, none⟩)] 31)).heap.size = 50 := ext_new _ _ _ (Nat.le_refl _)
    rw [World.size_alloc] at g3 g4
    exact ⟨g1, g2, g3, g4⟩
  have hS := hS1.trans hS2
  have hA1 := hA.step hS (fun x h => h.elim)
  have hD1 := hD.step hS (fun x h => h.elim)
  obtain ⟨b0, b1, x1, x2, x3, x4, x5, x6, x7, lb, lx⟩ := hX.cells
  have H0 := Lib.hid (And.intro (hS.mono (C' := fun x => x ≠ 0 ∧ x < 50) (fun x h => h.elim)) (And.intro hA1 (And.intro hD1 (And.intro hX hI))))
  clear P1 hS1 hS2 hX hS hA1 hD1 hA hD hk hI
  go_enter Try.func29, Try.ntmps29
  go_wp2_with fail
  ((with_reducible refine (HP.out _).mono ?_); rintro e wz ⟨rfl, rfl⟩)
  clear HP
  generalize (ext (ext own w 50) (w.alloc (.cells #[.pointer (some ⟨p, 0, none⟩), .pointer (some ⟨q, 0, none⟩), .pointer (some ⟨rp, 0, none⟩), .pointer (some ⟨p2, 0, none⟩)] 31)) 50) = own1 at *
  generalize ((w.alloc (.cells #[.pointer (some ⟨p, 0, none⟩), .pointer (some ⟨q, 0, none⟩), .pointer (some ⟨rp, 0, none⟩), .pointer (some ⟨p2, 0, none⟩)] 31)).alloc (.cells #[.int .i64 xk, .int .i64 xd, .int .i64 xs, .int .u64 (xa : Int), .int .u64 (xv : Int), .bool xw, .int .i64 xg, .int .i64 xq] 54)) = w1 at *
  generalize hob : w.heap.size = ob at *
  generalize hxb : ob + 1 = xb at *
  have hdr : Step (fun _ => False) own1 w1 own1 w1.drew := (Step.refl _ _ _).drew
  have Hd := Lib.hid (And.intro (H0.out.1.trans (hdr.mono (fun x h => h.elim))) (And.intro (H0.out.2.1.step hdr (fun x h => h.elim)) (And.intro (H0.out.2.2.1.step hdr (fun x h => h.elim)) (And.intro (H0.out.2.2.2.1.step hdr (fun h => h)) H0.out.2.2.2.2))))
  have HDS := Lib.hid (H0.out.2.2.2.1.dS H0.out.2.2.1)
  clear hdr
  have hA0 := io_RingX Hd.out.2.1.u Hd.out.2.1.mm xa hba
  obtain ⟨z, hz⟩ : ∃ z : Int, (if ringOk 8 xa then (0 : Int) else 1) = z := ⟨_, rfl⟩
  rw [hz] at hA0
  have HA := Lib.hid hA0
  have HZ := Lib.hid hz
  clear hA0 hz
  go_wp2_with fail
  refine wpE_region (S := dS ob xb q p t2 xd xs xa xv xg xq) (s := 11) (by kernel_rfl) ?_
  have hS : (dS ob xb q p t2 xd xs xa xv xg xq) _ := HDS.out
  refine wpE_take (i := 0) (oi := { dst := some 252, op := Go.Op.fieldAddr 31 (Go.Operand.tmp 2) 0, type := 0, pos := "law.go:70", after := #[], guard := none }) (v := ?_) rfl (by kernel_rfl) (fun _ _ _ h => h) (Or.inl ⟨by rfl, fun W hW => ?_⟩) hS ?_
  rotate_left
  · obtain ⟨hw1, hw2, hw3, hw4, hw5, hw6, hw7, hw8, hw9⟩ := hW; go_simp; (try go_bits); (try rw [if_pos (by omega)]); (try with_reducible rfl)
  (try simp only [Act.put, List.setIfInBounds_toArray, List.set_cons_succ, List.set_cons_zero])
  refine wpE_take (i := 1) (oi := { dst := some 253, op := Go.Op.load 24 (Go.Operand.tmp 252), type := 24, pos := "law.go:70", after := #[{ on := 0, ground := Go.Ground.data }], guard := none }) (v := ?_) rfl (by kernel_rfl) (fun _ _ _ h => h) (Or.inl ⟨by rfl, fun W hW => ?_⟩) hS ?_
  rotate_left
  · obtain ⟨hw1, hw2, hw3, hw4, hw5, hw6, hw7, hw8, hw9⟩ := hW; go_simp; (try go_bits); (try rw [if_pos (by omega)]); (try with_reducible rfl)
  (try simp only [Act.put, List.setIfInBounds_toArray, List.set_cons_succ, List.set_cons_zero])
  refine wpE_take (i := 2) (oi := { dst := some 254, op := Go.Op.fieldAddr 54 (Go.Operand.tmp 3) 3, type := 0, pos := "law.go:70", after := #[], guard := none }) (v := ?_) rfl (by kernel_rfl) (fun _ _ _ h => h) (Or.inl ⟨by rfl, fun W hW => ?_⟩) hS ?_
  rotate_left
  · obtain ⟨hw1, hw2, hw3, hw4, hw5, hw6, hw7, hw8, hw9⟩ := hW; go_simp; (try go_bits); (try rw [if_pos (by omega)]); (try with_reducible rfl)
  (try simp only [Act.put, List.setIfInBounds_toArray, List.set_cons_succ, List.set_cons_zero])
  refine wpE_take (i := 3) (oi := { dst := some 255, op := Go.Op.load 22 (Go.Operand.tmp 254), type := 22, pos := "law.go:70", after := #[{ on := 2, ground := Go.Ground.data }], guard := none }) (v := ?_) rfl (by kernel_rfl) (fun _ _ _ h => h) (Or.inl ⟨by rfl, fun W hW => ?_⟩) hS ?_
  rotate_left
  · obtain ⟨hw1, hw2, hw3, hw4, hw5, hw6, hw7, hw8, hw9⟩ := hW; go_simp; (try go_bits); (try rw [if_pos (by omega)]); (try with_reducible rfl)
  (try simp only [Act.put, List.setIfInBounds_toArray, List.set_cons_succ, List.set_cons_zero])
  refine wpE_take (i := 5) (oi := { dst := some 257, op := Go.Op.fieldAddr 31 (Go.Operand.tmp 2) 1, type := 0, pos := "law.go:70", after := #[], guard := none }) (v := ?_) rfl (by kernel_rfl) (fun _ _ _ h => h) (Or.inl ⟨by rfl, fun W hW => ?_⟩) hS ?_
  rotate_left
  · obtain ⟨hw1, hw2, hw3, hw4, hw5, hw6, hw7, hw8, hw9⟩ := hW; go_simp; (try go_bits); (try rw [if_pos (by omega)]); (try with_reducible rfl)
  (try simp only [Act.put, List.setIfInBounds_toArray, List.set_cons_succ, List.set_cons_zero])
  refine wpE_take (i := 6) (oi := { dst := some 258, op := Go.Op.load 25 (Go.Operand.tmp 257), type := 25, pos := "law.go:70", after := #[{ on := 5, ground := Go.Ground.data }], guard := none }) (v := ?_) rfl (by kernel_rfl) (fun _ _ _ h => h) (Or.inl ⟨by rfl, fun W hW => ?_⟩) hS ?_
  rotate_left
  · obtain ⟨hw1, hw2, hw3, hw4, hw5, hw6, hw7, hw8, hw9⟩ := hW; go_simp; (try go_bits); (try rw [if_pos (by omega)]); (try with_reducible rfl)
  (try simp only [Act.put, List.setIfInBounds_toArray, List.set_cons_succ, List.set_cons_zero])
  refine wpE_take (i := 7) (oi := { dst := some 259, op := Go.Op.fieldAddr 54 (Go.Operand.tmp 3) 3, type := 0, pos := "law.go:70", after := #[], guard := none }) (v := ?_) rfl (by kernel_rfl) (fun _ _ _ h => h) (Or.inl ⟨by rfl, fun W hW => ?_⟩) hS ?_
  rotate_left
  · obtain ⟨hw1, hw2, hw3, hw4, hw5, hw6, hw7, hw8, hw9⟩ := hW; go_simp; (try go_bits); (try rw [if_pos (by omega)]); (try with_reducible rfl)
  (try simp only [Act.put, List.setIfInBounds_toArray, List.set_cons_succ, List.set_cons_zero])
  refine wpE_take (i := 8) (oi := { dst := some 260, op := Go.Op.load 22 (Go.Operand.tmp 259), type := 22, pos := "law.go:70", after := #[{ on := 7, ground := Go.Ground.data }], guard := none }) (v := ?_) rfl (by kernel_rfl) (fun _ _ _ h => h) (Or.inl ⟨by rfl, fun W hW => ?_⟩) hS ?_
  rotate_left
  · obtain ⟨hw1, hw2, hw3, hw4, hw5, hw6, hw7, hw8, hw9⟩ := hW; go_simp; (try go_bits); (try rw [if_pos (by omega)]); (try with_reducible rfl)
  (try simp only [Act.put, List.setIfInBounds_toArray, List.set_cons_succ, List.set_cons_zero])
  refine wpE_only (i := 4) (oi := { dst := some 256, op := Go.Op.call { callee := Go.Callee.value (Go.Operand.func 13), args := #[Go.Operand.tmp 253, Go.Operand.tmp 255], argTypes := #[24, 22] }, type := 35, pos := "law.go:70", after := #[{ on := 1, ground := Go.Ground.data }, { on := 3, ground := Go.Ground.data }], guard := none }) rfl (by kernel_rfl) (by rfl) (fun K hK => ?_)
  go_simp; refine HA.out.mono ?_; rintro e w2 ⟨rfl, hS2, hU2⟩
  have hP2 : PA own1 w2 p rp tp r (ringS 8 s xa) m l := ⟨hU2, Hd.out.2.1.mm.step hS2 (by decide), Hd.out.2.1.t.step hS2 (by decide) (by decide)⟩
  have hD2 := Hd.out.2.2.1.step hS2 (by omega)
  have hX2 := Hd.out.2.2.2.1.step hS2 (by decide)
  have hB0 := uref_Ring hD2.ur hD2.mr (by decide) xa hba
  rw [HZ.out] at hB0
  have HB := Lib.hid hB0
  have H2 := Lib.hid (And.intro (Hd.out.1.trans (hS2.mono (fun x h => by omega))) (And.intro hP2 (And.intro hD2 hX2)))
  have hS := hX2.dS hD2
  clear hS2 hU2 hP2 hD2 hX2 HA hB0
  refine hK _ _ hS ?_; clear hK K
  (try simp only [Act.put, List.setIfInBounds_toArray, List.set_cons_succ, List.set_cons_zero])
  refine wpE_only (i := 9) (oi := { dst := some 261, op := Go.Op.call { callee := Go.Callee.value (Go.Operand.func 55), args := #[Go.Operand.tmp 258, Go.Operand.tmp 260], argTypes := #[25, 22] }, type := 3, pos := "law.go:70", after := #[{ on := 6, ground := Go.Ground.data }, { on := 8, ground := Go.Ground.data }, { on := 4, ground := Go.Ground.chain }], guard := none }) rfl (by kernel_rfl) (by rfl) (fun K hK => ?_)
  go_simp; refine HB.out.mono ?_; rintro e w3 ⟨rfl, hS3, hU3⟩
  have hD3 : PD own1 w3 q p2 t2 r (ringS 8 s xa) m l ms := ⟨H2.out.2.2.1.mr.step hS3 (by decide), hU3, H2.out.2.2.1.tr.step hS3 (by decide) (by decide)⟩
  have hP3 := H2.out.2.1.step hS3 (by omega)
  have hX3 := H2.out.2.2.2.step hS3 (by decide)
  have H3 := Lib.hid (And.intro (H2.out.1.trans (hS3.mono (fun x h => by omega))) (And.intro hP3 hD3))
  have hS := hX3.dS hD3
  clear hS3 hU3 hP3 hD3 hX3 HB
  refine hK _ _ hS ?_; clear hK K
  (try simp only [Act.put, List.setIfInBounds_toArray, List.set_cons_succ, List.set_cons_zero])
  refine wpE_take (i := 10) (oi := { dst := some 262, op := Go.Op.binOp Go.BinOp.eql 3 (Go.Operand.tmp 256) (Go.Operand.tmp 261) 3, type := 4, pos := "law.go:70", after := #[{ on := 4, ground := Go.Ground.data }, { on := 9, ground := Go.Ground.data }], guard := none }) (v := ?_) rfl (by kernel_rfl) (fun _ _ _ h => h) (Or.inl ⟨by rfl, fun W hW => ?_⟩) hS ?_
  rotate_left
  · obtain ⟨hw1, hw2, hw3, hw4, hw5, hw6, hw7, hw8, hw9⟩ := hW; go_simp; (try go_bits); (try rw [if_pos (by omega)]); (try with_reducible rfl)
  (try simp only [Act.put, List.setIfInBounds_toArray, List.set_cons_succ, List.set_cons_zero])
  refine wpE_last (oi := { dst := some 4, op := Go.Op.assign (Go.Operand.tmp 262), type := 4, pos := "law.go:70", after := #[{ on := 10, ground := Go.Ground.data }, { on := 9, ground := Go.Ground.chain }, { on := 0, ground := Go.Ground.phase }, { on := 1, ground := Go.Ground.phase }, { on := 2, ground := Go.Ground.phase }, { on := 3, ground := Go.Ground.phase }, { on := 4, ground := Go.Ground.phase }, { on := 5, ground := Go.Ground.phase }, { on := 6, ground := Go.Ground.phase }, { on := 7, ground := Go.Ground.phase }, { on := 8, ground := Go.Ground.phase }, { on := 9, ground := Go.Ground.phase }, { on := 10, ground := Go.Ground.phase }], guard := none }) rfl (by kernel_rfl) (by kernel_rfl) (by rfl) (fun K hK => ?_)
  go_simp; (try go_bits); refine hK _ _ ?_; clear hK K
  clear hS
  go_wp2
  go_ret
  exact ⟨by first | rfl | simp, own1, _, _, _, ms, H3.out.1, H3.out.2.1, H3.out.2.2, Hd.out.2.2.2.2.ring xa hba, by omega⟩
end
end Go.Proofs.Ytlgcplekcmocbaa
