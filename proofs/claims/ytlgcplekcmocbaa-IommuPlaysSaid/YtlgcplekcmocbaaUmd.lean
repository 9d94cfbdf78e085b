import Derived.Test.YtlgcplekcmocbaaUmc
/- citadellaw07.On.Do, kind by kind (printed by gdo.py). -/
namespace Go.Proofs.Ytlgcplekcmocbaa
set_option linter.unusedVariables false
set_option linter.unusedSimpArgs false
open Go.RowKit
set_option maxRecDepth 100000

section
variable {own : Nat → Nat} {w : World} {p q rp tp p2 t2 r : Nat} {s : Us} {m : Nat → Int} {l : List Tr} {ms : List To4} {xk xd xs xg xq : Int} {xa xv : Nat} {xw : Bool}
set_option maxHeartbeats 2000000 in
theorem do_0 (hA : PA own w p rp tp r s m l) (hD : PD own w q p2 t2 r s m l ms) (hI : PI s l ms) (hms : ms.length < 4398046511103) (hbk : i64B xk) (hbs : i64B xs) (hba : xa < 18446744073709551616) (hbv : xv < 18446744073709551616) (hk : xk % 11 = 0) :
    Calls Try.prog 29 #[.agg #[.pointer (some ⟨p, 0, none⟩), .pointer (some ⟨q, 0, none⟩), .pointer (some ⟨rp, 0, none⟩), .pointer (some ⟨p2, 0, none⟩)], .agg #[.int .i64 xk, .int .i64 xd, .int .i64 xs, .int .u64 (xa : Int), .int .u64 (xv : Int), .bool xw, .int .i64 xg, .int .i64 xq]] w fun e w' => e = .returned (.bool true) ∧ ∃ own' s' m' l' ms', Step (fun x => x ≠ 0 ∧ x < 50) own w own' w' ∧ PA own' w' p rp tp r s' m' l' ∧ PD own' w' q p2 t2 r s' m' l' ms' ∧ PI s' l' ms' ∧ ms'.length ≤ ms.length + 1 := by
  have P1 := fun w => place_calls xk 11 w hbk.1 hbk.2 (by decide) (by decide)
  rw [hk] at P1
  have HP := Lib.hid P1
  have hS1 : Step (fun _ => False) own w (ext own w 50) (w.alloc (.cells #[.pointer (some ⟨p, 0, none⟩), .pointer (some ⟨q, 0, none⟩), .pointer (some ⟨rp, 0, none⟩), .pointer (some ⟨p2, 0, none⟩)] 31)) := ⟨(Upd.refl _ _).alloc _, fun b hb => ext_old _ _ _ hb⟩
  have hS2 : Step (fun _ => False) (ext own w 50) (w.alloc (.cells #[.pointer (some ⟨p, 0, none⟩), .pointer (some ⟨q, 0, none⟩), .pointer (some ⟨rp, 0, none⟩), .pointer (some ⟨p2, 0, none⟩)] 31)) (ext (ext own w 50) (w.alloc (.cells #[.pointer (some ⟨p, 0, none⟩), .pointer (some ⟨q, 0, none⟩), .pointer (some ⟨rp, 0, none⟩), .pointer (some ⟨p2, 0, none⟩)] 31)) 50) ((w.alloc (.cells #[.pointer (some ⟨p, 0, none⟩), .pointer (some ⟨q, 0, none⟩), .pointer (some ⟨rp, 0, none⟩), .pointer (some ⟨p2, 0, none⟩)] 31)).alloc (.cells #[.int .i64 xk, .int .i64 xd, .int .i64 xs, .int .u64 (xa : Int), .int .u64 (xv : Int), .bool xw, .int .i64 xg, .int .i64 xq] 54)) := ⟨(Upd.refl _ _).alloc _, fun b hb => ext_old _ _ _ hb⟩
  have hX : DX (ext (ext own w 50) (w.alloc (.cells #[.pointer (some ⟨p, 0, none⟩), .pointer (some ⟨q, 0, none⟩), .pointer (some ⟨rp, 0, none⟩), .pointer (some ⟨p2, 0, none⟩)] 31)) 50) ((w.alloc (.cells #[.pointer (some ⟨p, 0, none⟩), .pointer (some ⟨q, 0, none⟩), .pointer (some ⟨rp, 0, none⟩), .pointer (some ⟨p2, 0, none⟩)] 31)).alloc (.cells #[.int .i64 xk, .int .i64 xd, .int .i64 xs, .int .u64 (xa : Int), .int .u64 (xv : Int), .bool xw, .int .i64 xg, .int .i64 xq] 54)) w.heap.size (w.heap.size + 1) p q rp p2 xk xd xs xa xv xw xg xq := by
    obtain ⟨g1, g2⟩ := hS2.blk (Blk.new w _ _) (ext_new own w 50 (Nat.le_refl _)) (fun h => h)
    have g3 := Blk.new (w.alloc (.cells #[.pointer (some ⟨p, 0, none⟩), .pointer (some ⟨q, 0, none⟩), .pointer (some ⟨rp, 0, none⟩), .pointer (some ⟨p2, 0, none⟩)] 31)) 54 #[.int .i64 xk, .int .i64 xd, .int .i64 xs, .int .u64 (xa : Int), .int .u64 (xv : Int), .bool xw, .int .i64 xg, .int .i64 xq]
    have g4 : ext (ext own w 50) (w.alloc (.cells #[.pointer (some ⟨p, 0, none⟩), .pointer (some ⟨q, 0, none⟩), .pointer (some ⟨rp, 0, none⟩), .pointer (some ⟨p2, 0, none⟩)] 31)) 50 (w.alloc (.cells #[.pointer (some ⟨p, 0, none⟩), .pointer (some ⟨q, 0, none⟩), .pointer (some ⟨rp, 0, none⟩), .pointer (some ⟨p2, 0, none⟩)] 31)).heap.size = 50 := ext_new _ _ _ (Nat.le_refl _)
    rw [World.size_alloc] at g3 g4
    exact ⟨g1, g2, g3, g4⟩
  have hS := hS1.trans hS2
  have hA1 := hA.step hS (fun x h => h.elim)
  have hD1 := hD.step hS (fun x h => h.elim)
  obtain ⟨b0, b1, x1, x2, x3, x4, x5, x6, x7, lb, lx⟩ := hX.cells
  have H0 := Lib.hid (And.intro (hS.mono (C' := fun x => x ≠ 0 ∧ x < 50) (fun x h => h.elim)) (And.intro hA1 (And.intro hD1 (And.intro hX hI))))
  clear P1 hS1 hS2 hX hS hA1 hD1 hA hD hk hI
  go_enter Try.func29, Try.ntmps29
  go_wp2_with fail
  ((with_reducible refine (HP.out _).mono ?_); rintro e wz ⟨rfl, rfl⟩)
  clear HP
  generalize (ext (ext own w 50) (w.alloc (.cells #[.pointer (some ⟨p, 0, none⟩), .pointer (some ⟨q, 0, none⟩), .pointer (some ⟨rp, 0, none⟩), .pointer (some ⟨p2, 0, none⟩)] 31)) 50) = own1 at *
  generalize ((w.alloc (.cells #[.pointer (some ⟨p, 0, none⟩), .pointer (some ⟨q, 0, none⟩), .pointer (some ⟨rp, 0, none⟩), .pointer (some ⟨p2, 0, none⟩)] 31)).alloc (.cells #[.int .i64 xk, .int .i64 xd, .int .i64 xs, .int .u64 (xa : Int), .int .u64 (xv : Int), .bool xw, .int .i64 xg, .int .i64 xq] 54)) = w1 at *
  generalize hob : w.heap.size = ob at *
  generalize hxb : ob + 1 = xb at *
  have hAc := io_Access H0.out.2.1.u H0.out.2.1.mm H0.out.2.1.t (by decide) (by decide) H0.out.2.2.2.2.ok H0.out.2.2.2.2.el xd xa hba xs hbs.1 hbs.2 xw
  obtain ⟨⟨RA, KD, L⟩, hR⟩ : ∃ R, accA 8 m s r l xd xa xs xw = R := ⟨_, rfl⟩
  have huq := accA_uniq (n := 8) (m := m) (s := s) (room := r) H0.out.2.2.2.2.uq xd xa xs xw
  rw [hR] at hAc huq
  simp only [] at hAc huq
  have HAc := Lib.hid hAc
  have HR := Lib.hid (And.intro hR huq)
  clear hAc hR huq
  go_wp2_with fail
  ((with_reducible refine HAc.out.mono ?_); rintro e w2 ⟨rfl, own2, hS2, hU2, hM2, hT2, hl2⟩)
  have hD2 := H0.out.2.2.1.step hS2 (by omega)
  have hX2 := H0.out.2.2.2.1.step hS2 (by omega)
  have hDc := uref_Access hD2.ur hD2.mr hD2.tr (by decide) (by decide) (by decide) H0.out.2.2.2.2.ok H0.out.2.2.2.2.el xd xa hba xs hbs.1 hbs.2 xw
  rw [HR.out.1] at hDc
  simp only [] at hDc
  have HDc := Lib.hid hDc
  have H2 := Lib.hid (And.intro (H0.out.1.trans (hS2.mono (fun x h => by omega))) (And.intro (show PA own2 w2 p rp tp r (accSt s xd KD) (accMt s m xd KD xa) L from ⟨hU2, hM2, hT2⟩) (And.intro hX2 hl2)))
  obtain ⟨b0, b1, x1, x2, x3, x4, x5, x6, x7, lb, lx⟩ := hX2.cells
  clear hS2 hU2 hM2 hT2 hl2 hD2 hX2 hDc HAc
  go_wp2_with fail
  ((with_reducible refine HDc.out.mono ?_); rintro e w3 ⟨rfl, own3, hS3, hU3, hM3, hT3⟩)
  have H3 := Lib.hid (show ∃ own' s' m' l' ms', Step (fun x => x ≠ 0 ∧ x < 50) own w own' w3 ∧ PA own' w3 p rp tp r s' m' l' ∧ PD own' w3 q p2 t2 r s' m' l' ms' ∧ PI s' l' ms' ∧ ms'.length ≤ ms.length + 1 from
    ⟨own3, _, _, _, ms, H2.out.1.trans (hS3.mono (fun x h => by omega)), H2.out.2.1.step hS3 (by omega), ⟨hM3, hU3, hT3⟩, (show PI s L ms from ⟨H0.out.2.2.2.2.ok, H2.out.2.2.2, HR.out.2, H0.out.2.2.2.2.rel⟩).accSt xd KD, by omega⟩)
  obtain ⟨bb, hbb⟩ : ∃ bb, (KD == 0) = bb := ⟨_, rfl⟩
  clear hS3 hU3 hM3 hT3 H2 H0 HR HDc
  cases bb
  · go_wp2
    go_ret
    exact ⟨rfl, H3.out⟩
  · go_wp2
    go_ret
    exact ⟨rfl, H3.out⟩
set_option maxHeartbeats 2000000 in
theorem do_1 (hA : PA own w p rp tp r s m l) (hD : PD own w q p2 t2 r s m l ms) (hI : PI s l ms) (hms : ms.length < 4398046511103) (hbk : i64B xk) (hbs : i64B xs) (hba : xa < 18446744073709551616) (hbv : xv < 18446744073709551616) (hk : xk % 11 = 1) :
    Calls Try.prog 29 #[.agg #[.pointer (some ⟨p, 0, none⟩), .pointer (some ⟨q, 0, none⟩), .pointer (some ⟨rp, 0, none⟩), .pointer (some ⟨p2, 0, none⟩)], .agg #[.int .i64 xk, .int .i64 xd, .int .i64 xs, .int .u64 (xa : Int), .int .u64 (xv : Int), .bool xw, .int .i64 xg, .int .i64 xq]] w fun e w' => e = .returned (.bool true) ∧ ∃ own' s' m' l' ms', Step (fun x => x ≠ 0 ∧ x < 50) own w own' w' ∧ PA own' w' p rp tp r s' m' l' ∧ PD own' w' q p2 t2 r s' m' l' ms' ∧ PI s' l' ms' ∧ ms'.length ≤ ms.length + 1 := by
  have P1 := fun w => place_calls xk 11 w hbk.1 hbk.2 (by decide) (by decide)
  rw [hk] at P1
  have HP := Lib.hid P1
  have hS1 : Step (fun _ => False) own w (ext own w 50) (w.alloc (.cells #[.pointer (some ⟨p, 0, none⟩), .pointer (some ⟨q, 0, none⟩), .pointer (some ⟨rp, 0, none⟩), .pointer (some ⟨p2, 0, none⟩)] 31)) := ⟨(Upd.refl _ _).alloc _, fun b hb => ext_old _ _ _ hb⟩
  have hS2 : Step (fun _ => False) (ext own w 50) (w.alloc (.cells #[.pointer (some ⟨p, 0, none⟩), .pointer (some ⟨q, 0, none⟩), .pointer (some ⟨rp, 0, none⟩), .pointer (some ⟨p2, 0, none⟩)] 31)) (ext (ext own w 50) (w.alloc (.cells #[.pointer (some ⟨p, 0, none⟩), .pointer (some ⟨q, 0, none⟩), .pointer (some ⟨rp, 0, none⟩), .pointer (some ⟨p2, 0, none⟩)] 31)) 50) ((w.alloc (.cells #[.pointer (some ⟨p, 0, none⟩), .pointer (some ⟨q, 0, none⟩), .pointer (some ⟨rp, 0, none⟩), .pointer (some ⟨p2, 0, none⟩)] 31)).alloc (.cells #[.int .i64 xk, .int .i64 xd, .int .i64 xs, .int .u64 (xa : Int), .int .u64 (xv : Int), .bool xw, .int .i64 xg, .int .i64 xq] 54)) := ⟨(Upd.refl _ _).alloc _, fun b hb => ext_old _ _ _ hb⟩
  have hX : DX (ext (ext own w 50) (w.alloc (.cells #[.pointer (some ⟨p, 0, none⟩), .pointer (some ⟨q, 0, none⟩), .pointer (some ⟨rp, 0, none⟩), .pointer (some ⟨p2, 0, none⟩)] 31)) 50) ((w.alloc (.cells #[.pointer (some ⟨p, 0, none⟩), .pointer (some ⟨q, 0, none⟩), .pointer (some ⟨rp, 0, none⟩), .pointer (some ⟨p2, 0, none⟩)] 31)).alloc (.cells #[.int .i64 xk, .int .i64 xd, .int .i64 xs, .int .u64 (xa : Int), .int .u64 (xv : Int), .bool xw, .int .i64 xg, .int .i64 xq] 54)) w.heap.size (w.heap.size + 1) p q rp p2 xk xd xs xa xv xw xg xq := by
    obtain ⟨g1, g2⟩ := hS2.blk (Blk.new w _ _) (ext_new own w 50 (Nat.le_refl _)) (fun h => h)
    have g3 := Blk.new (w.alloc (.cells #[.pointer (some ⟨p, 0, none⟩), .pointer (some ⟨q, 0, none⟩), .pointer (some ⟨rp, 0, none⟩), .pointer (some ⟨p2, 0, none⟩)] 31)) 54 #[.int .i64 xk, .int .i64 xd, .int .i64 xs, .int .u64 (xa : Int), .int .u64 (xv : Int), .bool xw, .int .i64 xg, .int .i64 xq]
    have g4 : ext (ext own w 50) (w.alloc (.cells #[.pointer (some ⟨p, 0, none⟩), .pointer (some ⟨q, 0, none⟩), .pointer (some ⟨rp, 0, none⟩), .pointer (some ⟨p2, 0, none⟩)] 31)) 50 (w.alloc (.cells #[.pointer (some ⟨p, 0, none⟩), .pointer (some ⟨q, 0, none⟩), .pointer (some ⟨rp, 0, none⟩), .pointer (some ⟨p2, 0, none⟩)] 31)).heap.size = 50 := ext_new _ _ _ (Nat.le_refl _)
    rw [World.size_alloc] at g3 g4
    exact ⟨g1, g2, g3, g4⟩
  have hS := hS1.trans hS2
  have hA1 := hA.step hS (fun x h => h.elim)
  have hD1 := hD.step hS (fun x h => h.elim)
  obtain ⟨b0, b1, x1, x2, x3, x4, x5, x6, x7, lb, lx⟩ := hX.cells
  have H0 := Lib.hid (And.intro (hS.mono (C' := fun x => x ≠ 0 ∧ x < 50) (fun x h => h.elim)) (And.intro hA1 (And.intro hD1 (And.intro hX hI))))
  clear P1 hS1 hS2 hX hS hA1 hD1 hA hD hk hI
  go_enter Try.func29, Try.ntmps29
  go_wp2_with fail
  ((with_reducible refine (HP.out _).mono ?_); rintro e wz ⟨rfl, rfl⟩)
  clear HP
  generalize (ext (ext own w 50) (w.alloc (.cells #[.pointer (some ⟨p, 0, none⟩), .pointer (some ⟨q, 0, none⟩), .pointer (some ⟨rp, 0, none⟩), .pointer (some ⟨p2, 0, none⟩)] 31)) 50) = own1 at *
  generalize ((w.alloc (.cells #[.pointer (some ⟨p, 0, none⟩), .pointer (some ⟨q, 0, none⟩), .pointer (some ⟨rp, 0, none⟩), .pointer (some ⟨p2, 0, none⟩)] 31)).alloc (.cells #[.int .i64 xk, .int .i64 xd, .int .i64 xs, .int .u64 (xa : Int), .int .u64 (xv : Int), .bool xw, .int .i64 xg, .int .i64 xq] 54)) = w1 at *
  generalize hob : w.heap.size = ob at *
  generalize hxb : ob + 1 = xb at *
  have hAc := io_MsgX H0.out.2.1.u H0.out.2.1.mm (by decide) H0.out.2.2.2.2.ok H0.out.2.2.2.2.rel xd xa xv hba
  obtain ⟨⟨V1, V2⟩, hV⟩ : ∃ V, msgV ms xd xa (xv : Int) = V := ⟨_, rfl⟩
  obtain ⟨G, hG⟩ : ∃ G, msgOk ms xd xa (xv : Int) = G := ⟨_, rfl⟩
  rw [hV, hG] at hAc
  simp only [] at hAc
  have HAc := Lib.hid hAc
  have HR := Lib.hid (And.intro hV hG)
  clear hAc hV hG
  go_wp2_with fail
  ((with_reducible refine HAc.out.mono ?_); rintro e w2 ⟨rfl, own2, hS2, hU2, hM2⟩)
  have hst : Step (fun _ => False) own2 w2 (ext own2 w2 50) (w2.alloc (.cells #[.int .i64 V1, .int .i64 V2] 38)) := ⟨(Upd.refl _ _).alloc _, fun b hb => ext_old _ _ _ hb⟩
  have hT2 := (H0.out.2.1.t.step hS2 (by omega) (by omega))
  have hP2 : PA (ext own2 w2 50) (w2.alloc (.cells #[.int .i64 V1, .int .i64 V2] 38)) p rp tp r (msgS s ms xd xa xv) (msgM s m ms xd xa xv) l := (show PA own2 w2 p rp tp r (msgS s ms xd xa xv) (msgM s m ms xd xa xv) l from ⟨hU2, hM2, hT2⟩).step hst (fun x h => h.elim)
  have hD2 := (H0.out.2.2.1.step hS2 (by omega)).step hst (fun x h => h.elim)
  have hX2 := (H0.out.2.2.2.1.step hS2 (by omega)).step hst (fun h => h)
  have hy := Blk.new w2 38 #[.int .i64 V1, .int .i64 V2]
  have hyo : ext own2 w2 50 w2.heap.size = 50 := ext_new _ _ _ (Nat.le_refl _)
  have hDc := uref_Message hD2.ur hD2.mr (by decide) (by decide) H0.out.2.2.2.2.ok (by omega) xd xa xv hba
  rw [HR.out.1, HR.out.2] at hDc
  simp only [] at hDc
  have HDc := Lib.hid hDc
  have H2 := Lib.hid (And.intro ((H0.out.1.trans (hS2.mono (fun x h => by omega))).trans (hst.mono (fun x h => h.elim))) (And.intro hP2 (And.intro hD2.tr (And.intro hy hyo))))
  obtain ⟨b0, b1, x1, x2, x3, x4, x5, x6, x7, lb, lx⟩ := hX2.cells
  clear hS2 hU2 hM2 hT2 hst hP2 hD2 hX2 hDc HAc hy hyo
  go_wp2_with fail
  generalize w2.heap.size = yb at *
  generalize (w2.alloc (.cells #[.int .i64 V1, .int .i64 V2] 38)) = w3 at *
  generalize ext own2 w2 50 = own3 at *
  ((with_reducible refine HDc.out.mono ?_); rintro e w4 ⟨rfl, own4, hS4, hU4, hM4⟩)
  obtain ⟨k1, k2⟩ := hS4.blk H2.out.2.2.2.1 H2.out.2.2.2.2 (by omega)
  have y0 := k1.cell 0
  have y1 := k1.cell 1
  simp only [List.getElem?_toArray, List.getElem?_cons_zero, List.getElem?_cons_succ] at y0 y1
  have ly := k1.lt
  have hst := step_allocS own4 w4 (.cells #[.int .i64 V1, .int .i64 V2] 38)
  have H3 := Lib.hid (show ∃ own' s' m' l' ms', Step (fun x => x ≠ 0 ∧ x < 50) own w own' (w4.alloc (.cells #[.int .i64 V1, .int .i64 V2] 38)) ∧ PA own' (w4.alloc (.cells #[.int .i64 V1, .int .i64 V2] 38)) p rp tp r s' m' l' ∧ PD own' (w4.alloc (.cells #[.int .i64 V1, .int .i64 V2] 38)) q p2 t2 r s' m' l' ms' ∧ PI s' l' ms' ∧ ms'.length ≤ ms.length + 1 from
    ⟨own4, _, _, _, ms, (H2.out.1.trans (hS4.mono (fun x h => by omega))).trans (hst.mono (fun x h => h.elim)), (H2.out.2.1.step hS4 (by omega)).step hst (fun x h => h.elim), (show PD own4 w4 q p2 t2 r _ _ l ms from ⟨hM4, hU4, H2.out.2.2.1.step hS4 (by omega) (by omega)⟩).step hst (fun x h => h.elim), H0.out.2.2.2.2.msgS xd xa xv, by omega⟩)
  clear hS4 hU4 hM4 H2 H0 HR HDc k1 k2 hst
  cases G
  · go_wp2
    go_ret
    exact ⟨rfl, H3.out⟩
  · go_wp2
    go_ret
    exact ⟨rfl, H3.out⟩
end
end Go.Proofs.Ytlgcplekcmocbaa

/- citadellaw07.On.Do, kind by kind (printed by gdo.py). -/
namespace Go.Proofs.Ytlgcplekcmocbaa
set_option linter.unusedVariables false
set_option linter.unusedSimpArgs false
open Go.RowKit
set_option maxRecDepth 100000

theorem uref_ms {own : Nat → Nat} {c d q p2 t2 : Nat} {w : World} {s : Us} {ms : List To4} (h : UrefAt own c d w q p2 t2 s ms) (dev : Int) (k : Nat) (g i : Int) : UrefAt own c d w q p2 t2 (remS s dev k g i) ms := by
  obtain ⟨v, hb, r⟩ := h
  refine ⟨v, ?_, r⟩
  unfold remS
  split
  · exact hb
  · exact hb
section
variable {own : Nat → Nat} {w : World} {p q rp tp p2 t2 r : Nat} {s : Us} {m : Nat → Int} {l : List Tr} {ms : List To4} {xk xd xs xg xq : Int} {xa xv : Nat} {xw : Bool}
set_option maxHeartbeats 2000000 in
theorem do_2 (hA : PA own w p rp tp r s m l) (hD : PD own w q p2 t2 r s m l ms) (hI : PI s l ms) (hms : ms.length < 4398046511103) (hbk : i64B xk) (hbs : i64B xs) (hba : xa < 18446744073709551616) (hbv : xv < 18446744073709551616) (hk : xk % 11 = 2) :
    Calls Try.prog 29 #[.agg #[.pointer (some ⟨p, 0, none⟩), .pointer (some ⟨q, 0, none⟩), .pointer (some ⟨rp, 0, none⟩), .pointer (some ⟨p2, 0, none⟩)], .agg #[.int .i64 xk, .int .i64 xd, .int .i64 xs, .int .u64 (xa : Int), .int .u64 (xv : Int), .bool xw, .int .i64 xg, .int .i64 xq]] w fun e w' => e = .returned (.bool true) ∧ ∃ own' s' m' l' ms', Step (fun x => x ≠ 0 ∧ x < 50) own w own' w' ∧ PA own' w' p rp tp r s' m' l' ∧ PD own' w' q p2 t2 r s' m' l' ms' ∧ PI s' l' ms' ∧ ms'.length ≤ ms.length + 1 := by
  have P1 := fun w => place_calls xk 11 w hbk.1 hbk.2 (by decide) (by decide)
  rw [hk] at P1
  have HP := Lib.hid P1
  have hS1 : Step (fun _ => False) own w (ext own w 50) (w.alloc (.cells #[.pointer (some ⟨p, 0, none⟩), .pointer (some ⟨q, 0, none⟩), .pointer (some ⟨rp, 0, none⟩), .pointer (some ⟨p2, 0, none⟩)] 31)) := ⟨(Upd.refl _ _).alloc _, fun b hb => ext_old _ _ _ hb⟩
  have hS2 : Step (fun _ => False) (ext own w 50) (w.alloc (.cells #[.pointer (some ⟨p, 0, none⟩), .pointer (some ⟨q, 0, none⟩), .pointer (some ⟨rp, 0, none⟩), .pointer (some ⟨p2, 0, none⟩)] 31)) (ext (ext own w 50) (w.alloc (.cells #[.pointer (some ⟨p, 0, none⟩), .pointer (some ⟨q, 0, none⟩), .pointer (some ⟨rp, 0, none⟩), .pointer (some ⟨p2, 0, none⟩)] 31)) 50) ((w.alloc (.cells #[.pointer (some ⟨p, 0, none⟩), .pointer (some ⟨q, 0, none⟩), .pointer (some ⟨rp, 0, none⟩), .pointer (some ⟨p2, 0, none⟩)] 31)).alloc (.cells #[.int .i64 xk, .int .i64 xd, .int .i64 xs, .int .u64 (xa : Int), .int .u64 (xv : Int), .bool xw, .int .i64 xg, .int .i64 xq] 54)) := ⟨(Upd.refl _ _).alloc _, fun b hb => ext_old _ _ _ hb⟩
  have hX : DX (ext (ext own w 50) (w.alloc (.cells #[.pointer (some ⟨p, 0, none⟩), .pointer (some ⟨q, 0, none⟩), .pointer (some ⟨rp, 0, none⟩), .pointer (some ⟨p2, 0, none⟩)] 31)) 50) ((w.alloc (.cells #[.pointer (some ⟨p, 0, none⟩), .pointer (some ⟨q, 0, none⟩), .pointer (some ⟨rp, 0, none⟩), .pointer (some ⟨p2, 0, none⟩)] 31)).alloc (.cells #[.int .i64 xk, .int .i64 xd, .int .i64 xs, .int .u64 (xa : Int), .int .u64 (xv : Int), .bool xw, .int .i64 xg, .int .i64 xq] 54)) w.heap.size (w.heap.size + 1) p q rp p2 xk xd xs xa xv xw xg xq := by
    obtain ⟨g1, g2⟩ := hS2.blk (Blk.new w _ _) (ext_new own w 50 (Nat.le_refl _)) (fun h => h)
    have g3 := Blk.new (w.alloc (.cells #[.pointer (some ⟨p, 0, none⟩), .pointer (some ⟨q, 0, none⟩), .pointer (some ⟨rp, 0, none⟩), .pointer (some ⟨p2, 0, none⟩)] 31)) 54 #[.int .i64 xk, .int .i64 xd, .int .i64 xs, .int .u64 (xa : Int), .int .u64 (xv : Int), .bool xw, .int .i64 xg, .int .i64 xq]
    have g4 : ext (ext own w 50) (w.alloc (.cells #[.pointer (some ⟨p, 0, none⟩), .pointer (some ⟨q, 0, none⟩), .pointer (some ⟨rp, 0, none⟩), .pointer (some ⟨p2, 0, none⟩)] 31)) 50 (w.alloc (.cells #[.pointer (some ⟨p, 0, none⟩), .pointer (some ⟨q, 0, none⟩), .pointer (some ⟨rp, 0, none⟩), .pointer (some ⟨p2, 0, none⟩)] 31)).heap.size = 50 := ext_new _ _ _ (Nat.le_refl _)
    rw [World.size_alloc] at g3 g4
    exact ⟨g1, g2, g3, g4⟩
  have hS := hS1.trans hS2
  have hA1 := hA.step hS (fun x h => h.elim)
  have hD1 := hD.step hS (fun x h => h.elim)
  obtain ⟨b0, b1, x1, x2, x3, x4, x5, x6, x7, lb, lx⟩ := hX.cells
  have H0 := Lib.hid (And.intro (hS.mono (C' := fun x => x ≠ 0 ∧ x < 50) (fun x h => h.elim)) (And.intro hA1 (And.intro hD1 (And.intro hX hI))))
  clear P1 hS1 hS2 hX hS hA1 hD1 hA hD hk hI
  go_enter Try.func29, Try.ntmps29
  go_wp2_with fail
  ((with_reducible refine (HP.out _).mono ?_); rintro e wz ⟨rfl, rfl⟩)
  clear HP
  generalize (ext (ext own w 50) (w.alloc (.cells #[.pointer (some ⟨p, 0, none⟩), .pointer (some ⟨q, 0, none⟩), .pointer (some ⟨rp, 0, none⟩), .pointer (some ⟨p2, 0, none⟩)] 31)) 50) = own1 at *
  generalize ((w.alloc (.cells #[.pointer (some ⟨p, 0, none⟩), .pointer (some ⟨q, 0, none⟩), .pointer (some ⟨rp, 0, none⟩), .pointer (some ⟨p2, 0, none⟩)] 31)).alloc (.cells #[.int .i64 xk, .int .i64 xd, .int .i64 xs, .int .u64 (xa : Int), .int .u64 (xv : Int), .bool xw, .int .i64 xg, .int .i64 xq] 54)) = w1 at *
  generalize hob : w.heap.size = ob at *
  generalize hxb : ob + 1 = xb at *
  have hdr : Step (fun _ => False) own1 w1 own1 w1.drew := (Step.refl _ _ _).drew
  have Hd := Lib.hid (And.intro (H0.out.1.trans (hdr.mono (fun x h => h.elim))) (And.intro (H0.out.2.1.step hdr (fun x h => h.elim)) (And.intro (H0.out.2.2.1.step hdr (fun x h => h.elim)) (And.intro (H0.out.2.2.2.1.step hdr (fun h => h)) H0.out.2.2.2.2))))
  have HDS := Lib.hid (H0.out.2.2.2.1.dS H0.out.2.2.1)
  clear hdr
  have HA := Lib.hid (io_SetX Hd.out.2.1.u xd xa)
  go_wp2_with fail
  refine wpE_region (S := dS ob xb q p t2 xd xs xa xv xg xq) (s := 28) (by kernel_rfl) ?_
  have hS : (dS ob xb q p t2 xd xs xa xv xg xq) _ := HDS.out
  refine wpE_take (i := 0) (oi := { dst := some 94, op := Go.Op.fieldAddr 31 (Go.Operand.tmp 2) 0, type := 0, pos := "law.go:49", after := #[], guard := none }) (v := ?_) rfl (by kernel_rfl) (fun _ _ _ h => h) (Or.inl ⟨by rfl, fun W hW => ?_⟩) hS ?_
  rotate_left
  · obtain ⟨hw1, hw2, hw3, hw4, hw5, hw6, hw7, hw8, hw9⟩ := hW; go_simp; (try go_bits); (try rw [if_pos (by omega)]); (try with_reducible rfl)
  (try simp only [Act.put, List.setIfInBounds_toArray, List.set_cons_succ, List.set_cons_zero])
  refine wpE_take (i := 1) (oi := { dst := some 95, op := Go.Op.load 24 (Go.Operand.tmp 94), type := 24, pos := "law.go:49", after := #[{ on := 0, ground := Go.Ground.data }], guard := none }) (v := ?_) rfl (by kernel_rfl) (fun _ _ _ h => h) (Or.inl ⟨by rfl, fun W hW => ?_⟩) hS ?_
  rotate_left
  · obtain ⟨hw1, hw2, hw3, hw4, hw5, hw6, hw7, hw8, hw9⟩ := hW; go_simp; (try go_bits); (try rw [if_pos (by omega)]); (try with_reducible rfl)
  (try simp only [Act.put, List.setIfInBounds_toArray, List.set_cons_succ, List.set_cons_zero])
  refine wpE_take (i := 2) (oi := { dst := some 96, op := Go.Op.fieldAddr 54 (Go.Operand.tmp 3) 1, type := 0, pos := "law.go:49", after := #[], guard := none }) (v := ?_) rfl (by kernel_rfl) (fun _ _ _ h => h) (Or.inl ⟨by rfl, fun W hW => ?_⟩) hS ?_
  rotate_left
  · obtain ⟨hw1, hw2, hw3, hw4, hw5, hw6, hw7, hw8, hw9⟩ := hW; go_simp; (try go_bits); (try rw [if_pos (by omega)]); (try with_reducible rfl)
  (try simp only [Act.put, List.setIfInBounds_toArray, List.set_cons_succ, List.set_cons_zero])
  refine wpE_take (i := 3) (oi := { dst := some 97, op := Go.Op.load 3 (Go.Operand.tmp 96), type := 3, pos := "law.go:49", after := #[{ on := 2, ground := Go.Ground.data }], guard := none }) (v := ?_) rfl (by kernel_rfl) (fun _ _ _ h => h) (Or.inl ⟨by rfl, fun W hW => ?_⟩) hS ?_
  rotate_left
  · obtain ⟨hw1, hw2, hw3, hw4, hw5, hw6, hw7, hw8, hw9⟩ := hW; go_simp; (try go_bits); (try rw [if_pos (by omega)]); (try with_reducible rfl)
  (try simp only [Act.put, List.setIfInBounds_toArray, List.set_cons_succ, List.set_cons_zero])
  refine wpE_take (i := 4) (oi := { dst := some 98, op := Go.Op.fieldAddr 54 (Go.Operand.tmp 3) 3, type := 0, pos := "law.go:49", after := #[], guard := none }) (v := ?_) rfl (by kernel_rfl) (fun _ _ _ h => h) (Or.inl ⟨by rfl, fun W hW => ?_⟩) hS ?_
  rotate_left
  · obtain ⟨hw1, hw2, hw3, hw4, hw5, hw6, hw7, hw8, hw9⟩ := hW; go_simp; (try go_bits); (try rw [if_pos (by omega)]); (try with_reducible rfl)
  (try simp only [Act.put, List.setIfInBounds_toArray, List.set_cons_succ, List.set_cons_zero])
  refine wpE_take (i := 5) (oi := { dst := some 99, op := Go.Op.load 22 (Go.Operand.tmp 98), type := 22, pos := "law.go:49", after := #[{ on := 4, ground := Go.Ground.data }], guard := none }) (v := ?_) rfl (by kernel_rfl) (fun _ _ _ h => h) (Or.inl ⟨by rfl, fun W hW => ?_⟩) hS ?_
  rotate_left
  · obtain ⟨hw1, hw2, hw3, hw4, hw5, hw6, hw7, hw8, hw9⟩ := hW; go_simp; (try go_bits); (try rw [if_pos (by omega)]); (try with_reducible rfl)
  (try simp only [Act.put, List.setIfInBounds_toArray, List.set_cons_succ, List.set_cons_zero])
  refine wpE_take (i := 7) (oi := { dst := some 101, op := Go.Op.fieldAddr 31 (Go.Operand.tmp 2) 1, type := 0, pos := "law.go:49", after := #[], guard := none }) (v := ?_) rfl (by kernel_rfl) (fun _ _ _ h => h) (Or.inl ⟨by rfl, fun W hW => ?_⟩) hS ?_
  rotate_left
  · obtain ⟨hw1, hw2, hw3, hw4, hw5, hw6, hw7, hw8, hw9⟩ := hW; go_simp; (try go_bits); (try rw [if_pos (by omega)]); (try with_reducible rfl)
  (try simp only [Act.put, List.setIfInBounds_toArray, List.set_cons_succ, List.set_cons_zero])
  refine wpE_take (i := 8) (oi := { dst := some 102, op := Go.Op.load 25 (Go.Operand.tmp 101), type := 25, pos := "law.go:49", after := #[{ on := 7, ground := Go.Ground.data }], guard := none }) (v := ?_) rfl (by kernel_rfl) (fun _ _ _ h => h) (Or.inl ⟨by rfl, fun W hW => ?_⟩) hS ?_
  rotate_left
  · obtain ⟨hw1, hw2, hw3, hw4, hw5, hw6, hw7, hw8, hw9⟩ := hW; go_simp; (try go_bits); (try rw [if_pos (by omega)]); (try with_reducible rfl)
  (try simp only [Act.put, List.setIfInBounds_toArray, List.set_cons_succ, List.set_cons_zero])
  refine wpE_take (i := 9) (oi := { dst := some 103, op := Go.Op.fieldAddr 54 (Go.Operand.tmp 3) 1, type := 0, pos := "law.go:49", after := #[], guard := none }) (v := ?_) rfl (by kernel_rfl) (fun _ _ _ h => h) (Or.inl ⟨by rfl, fun W hW => ?_⟩) hS ?_
  rotate_left
  · obtain ⟨hw1, hw2, hw3, hw4, hw5, hw6, hw7, hw8, hw9⟩ := hW; go_simp; (try go_bits); (try rw [if_pos (by omega)]); (try with_reducible rfl)
  (try simp only [Act.put, List.setIfInBounds_toArray, List.set_cons_succ, List.set_cons_zero])
  refine wpE_take (i := 10) (oi := { dst := some 104, op := Go.Op.load 3 (Go.Operand.tmp 103), type := 3, pos := "law.go:49", after := #[{ on := 9, ground := Go.Ground.data }], guard := none }) (v := ?_) rfl (by kernel_rfl) (fun _ _ _ h => h) (Or.inl ⟨by rfl, fun W hW => ?_⟩) hS ?_
  rotate_left
  · obtain ⟨hw1, hw2, hw3, hw4, hw5, hw6, hw7, hw8, hw9⟩ := hW; go_simp; (try go_bits); (try rw [if_pos (by omega)]); (try with_reducible rfl)
  (try simp only [Act.put, List.setIfInBounds_toArray, List.set_cons_succ, List.set_cons_zero])
  refine wpE_take (i := 11) (oi := { dst := some 105, op := Go.Op.fieldAddr 54 (Go.Operand.tmp 3) 3, type := 0, pos := "law.go:49", after := #[], guard := none }) (v := ?_) rfl (by kernel_rfl) (fun _ _ _ h => h) (Or.inl ⟨by rfl, fun W hW => ?_⟩) hS ?_
  rotate_left
  · obtain ⟨hw1, hw2, hw3, hw4, hw5, hw6, hw7, hw8, hw9⟩ := hW; go_simp; (try go_bits); (try rw [if_pos (by omega)]); (try with_reducible rfl)
  (try simp only [Act.put, List.setIfInBounds_toArray, List.set_cons_succ, List.set_cons_zero])
  refine wpE_take (i := 12) (oi := { dst := some 106, op := Go.Op.load 22 (Go.Operand.tmp 105), type := 22, pos := "law.go:49", after := #[{ on := 11, ground := Go.Ground.data }], guard := none }) (v := ?_) rfl (by kernel_rfl) (fun _ _ _ h => h) (Or.inl ⟨by rfl, fun W hW => ?_⟩) hS ?_
  rotate_left
  · obtain ⟨hw1, hw2, hw3, hw4, hw5, hw6, hw7, hw8, hw9⟩ := hW; go_simp; (try go_bits); (try rw [if_pos (by omega)]); (try with_reducible rfl)
  (try simp only [Act.put, List.setIfInBounds_toArray, List.set_cons_succ, List.set_cons_zero])
  refine wpE_only (i := 6) (oi := { dst := some 100, op := Go.Op.call { callee := Go.Callee.value (Go.Operand.func 18), args := #[Go.Operand.tmp 95, Go.Operand.tmp 97, Go.Operand.tmp 99], argTypes := #[24, 3, 22] }, type := 35, pos := "law.go:49", after := #[{ on := 1, ground := Go.Ground.data }, { on := 3, ground := Go.Ground.data }, { on := 5, ground := Go.Ground.data }], guard := none }) rfl (by kernel_rfl) (by rfl) (fun K hK => ?_)
  go_simp; refine HA.out.mono ?_; rintro e w2 ⟨rfl, hS2, hU2⟩
  have hP2 : PA own1 w2 p rp tp r (setSA s xd xa) m l := ⟨hU2, Hd.out.2.1.mm.step hS2 (by decide), Hd.out.2.1.t.step hS2 (by decide) (by decide)⟩
  have hD2 := Hd.out.2.2.1.step hS2 (by omega)
  have hX2 := Hd.out.2.2.2.1.step hS2 (by omega)
  have HB := Lib.hid (uref_Set hD2.ur (by decide) xd xa)
  have H2 := Lib.hid (And.intro (Hd.out.1.trans (hS2.mono (fun x h => by omega))) (And.intro hP2 (And.intro hD2 hX2)))
  have hS := hX2.dS hD2
  clear hS2 hU2 hP2 hD2 hX2 HA
  refine hK _ _ hS ?_; clear hK K
  (try simp only [Act.put, List.setIfInBounds_toArray, List.set_cons_succ, List.set_cons_zero])
  refine wpE_only (i := 13) (oi := { dst := some 107, op := Go.Op.call { callee := Go.Callee.value (Go.Operand.func 45), args := #[Go.Operand.tmp 102, Go.Operand.tmp 104, Go.Operand.tmp 106], argTypes := #[25, 3, 22] }, type := 3, pos := "law.go:49", after := #[{ on := 8, ground := Go.Ground.data }, { on := 10, ground := Go.Ground.data }, { on := 12, ground := Go.Ground.data }, { on := 6, ground := Go.Ground.chain }], guard := none }) rfl (by kernel_rfl) (by rfl) (fun K hK => ?_)
  go_simp; refine HB.out.mono ?_; rintro e w3 ⟨rfl, hS3, hU3⟩
  have hD3 : PD own1 w3 q p2 t2 r (setSA s xd xa) m l ms := ⟨H2.out.2.2.1.mr.step hS3 (by decide), hU3, H2.out.2.2.1.tr.step hS3 (by decide) (by decide)⟩
  have hP3 := H2.out.2.1.step hS3 (by omega)
  have hX3 := H2.out.2.2.2.step hS3 (by omega)
  have HC := Lib.hid (And.intro (io_Root hP3.u xd) (uref_Root hD3.ur xd))
  have H3 := Lib.hid (And.intro (H2.out.1.trans (hS3.mono (fun x h => by omega))) (And.intro hP3 (And.intro hD3 hX3)))
  have hS := hX3.dS hD3
  clear hS3 hU3 hP3 hD3 hX3 HB
  refine hK _ _ hS ?_; clear hK K
  (try simp only [Act.put, List.setIfInBounds_toArray, List.set_cons_succ, List.set_cons_zero])
  refine wpE_take (i := 14) (oi := { dst := some 108, op := Go.Op.binOp Go.BinOp.eql 3 (Go.Operand.tmp 100) (Go.Operand.tmp 107) 3, type := 4, pos := "law.go:49", after := #[{ on := 6, ground := Go.Ground.data }, { on := 13, ground := Go.Ground.data }], guard := none }) (v := ?_) rfl (by kernel_rfl) (fun _ _ _ h => h) (Or.inl ⟨by rfl, fun W hW => ?_⟩) hS ?_
  rotate_left
  · obtain ⟨hw1, hw2, hw3, hw4, hw5, hw6, hw7, hw8, hw9⟩ := hW; go_simp; (try go_bits); (try rw [if_pos (by omega)]); (try with_reducible rfl)
  (try simp only [Act.put, List.setIfInBounds_toArray, List.set_cons_succ, List.set_cons_zero])
  refine wpE_take (i := 15) (oi := { dst := some 109, op := Go.Op.move (Go.Operand.tmp 108), type := 4, pos := "law.go:49", after := #[{ on := 14, ground := Go.Ground.data }, { on := 13, ground := Go.Ground.chain }], guard := none }) (v := ?_) rfl (by kernel_rfl) (fun _ _ _ h => h) (Or.inl ⟨by rfl, fun W hW => ?_⟩) hS ?_
  rotate_left
  · obtain ⟨hw1, hw2, hw3, hw4, hw5, hw6, hw7, hw8, hw9⟩ := hW; go_simp; (try go_bits); (try rw [if_pos (by omega)]); (try with_reducible rfl)
  (try simp only [Act.put, List.setIfInBounds_toArray, List.set_cons_succ, List.set_cons_zero])
  refine wpE_take (i := 16) (oi := { dst := some 110, op := Go.Op.fieldAddr 31 (Go.Operand.tmp 2) 0, type := 0, pos := "law.go:49", after := #[{ on := 15, ground := Go.Ground.guard }], guard := some (15, true) }) (v := ?_) rfl (by kernel_rfl) (fun _ _ _ h => h) (Or.inl ⟨by rfl, fun W hW => ?_⟩) hS ?_
  rotate_left
  · obtain ⟨hw1, hw2, hw3, hw4, hw5, hw6, hw7, hw8, hw9⟩ := hW; go_simp; (try go_bits); (try rw [if_pos (by omega)]); (try with_reducible rfl)
  (try simp only [Act.put, List.setIfInBounds_toArray, List.set_cons_succ, List.set_cons_zero])
  refine wpE_take (i := 17) (oi := { dst := some 111, op := Go.Op.load 24 (Go.Operand.tmp 110), type := 24, pos := "law.go:49", after := #[{ on := 16, ground := Go.Ground.data }, { on := 15, ground := Go.Ground.guard }], guard := some (15, true) }) (v := ?_) rfl (by kernel_rfl) (fun _ _ _ h => h) (Or.inl ⟨by rfl, fun W hW => ?_⟩) hS ?_
  rotate_left
  · obtain ⟨hw1, hw2, hw3, hw4, hw5, hw6, hw7, hw8, hw9⟩ := hW; go_simp; (try go_bits); (try rw [if_pos (by omega)]); (try with_reducible rfl)
  (try simp only [Act.put, List.setIfInBounds_toArray, List.set_cons_succ, List.set_cons_zero])
  refine wpE_take (i := 18) (oi := { dst := some 112, op := Go.Op.fieldAddr 54 (Go.Operand.tmp 3) 1, type := 0, pos := "law.go:49", after := #[{ on := 15, ground := Go.Ground.guard }], guard := some (15, true) }) (v := ?_) rfl (by kernel_rfl) (fun _ _ _ h => h) (Or.inl ⟨by rfl, fun W hW => ?_⟩) hS ?_
  rotate_left
  · obtain ⟨hw1, hw2, hw3, hw4, hw5, hw6, hw7, hw8, hw9⟩ := hW; go_simp; (try go_bits); (try rw [if_pos (by omega)]); (try with_reducible rfl)
  (try simp only [Act.put, List.setIfInBounds_toArray, List.set_cons_succ, List.set_cons_zero])
  refine wpE_take (i := 19) (oi := { dst := some 113, op := Go.Op.load 3 (Go.Operand.tmp 112), type := 3, pos := "law.go:49", after := #[{ on := 18, ground := Go.Ground.data }, { on := 15, ground := Go.Ground.guard }], guard := some (15, true) }) (v := ?_) rfl (by kernel_rfl) (fun _ _ _ h => h) (Or.inl ⟨by rfl, fun W hW => ?_⟩) hS ?_
  rotate_left
  · obtain ⟨hw1, hw2, hw3, hw4, hw5, hw6, hw7, hw8, hw9⟩ := hW; go_simp; (try go_bits); (try rw [if_pos (by omega)]); (try with_reducible rfl)
  (try simp only [Act.put, List.setIfInBounds_toArray, List.set_cons_succ, List.set_cons_zero])
  refine wpE_take (i := 21) (oi := { dst := some 115, op := Go.Op.fieldAddr 31 (Go.Operand.tmp 2) 1, type := 0, pos := "law.go:49", after := #[{ on := 15, ground := Go.Ground.guard }], guard := some (15, true) }) (v := ?_) rfl (by kernel_rfl) (fun _ _ _ h => h) (Or.inl ⟨by rfl, fun W hW => ?_⟩) hS ?_
  rotate_left
  · obtain ⟨hw1, hw2, hw3, hw4, hw5, hw6, hw7, hw8, hw9⟩ := hW; go_simp; (try go_bits); (try rw [if_pos (by omega)]); (try with_reducible rfl)
  (try simp only [Act.put, List.setIfInBounds_toArray, List.set_cons_succ, List.set_cons_zero])
  refine wpE_take (i := 22) (oi := { dst := some 116, op := Go.Op.load 25 (Go.Operand.tmp 115), type := 25, pos := "law.go:49", after := #[{ on := 21, ground := Go.Ground.data }, { on := 15, ground := Go.Ground.guard }], guard := some (15, true) }) (v := ?_) rfl (by kernel_rfl) (fun _ _ _ h => h) (Or.inl ⟨by rfl, fun W hW => ?_⟩) hS ?_
  rotate_left
  · obtain ⟨hw1, hw2, hw3, hw4, hw5, hw6, hw7, hw8, hw9⟩ := hW; go_simp; (try go_bits); (try rw [if_pos (by omega)]); (try with_reducible rfl)
  (try simp only [Act.put, List.setIfInBounds_toArray, List.set_cons_succ, List.set_cons_zero])
  refine wpE_take (i := 23) (oi := { dst := some 117, op := Go.Op.fieldAddr 54 (Go.Operand.tmp 3) 1, type := 0, pos := "law.go:49", after := #[{ on := 15, ground := Go.Ground.guard }], guard := some (15, true) }) (v := ?_) rfl (by kernel_rfl) (fun _ _ _ h => h) (Or.inl ⟨by rfl, fun W hW => ?_⟩) hS ?_
  rotate_left
  · obtain ⟨hw1, hw2, hw3, hw4, hw5, hw6, hw7, hw8, hw9⟩ := hW; go_simp; (try go_bits); (try rw [if_pos (by omega)]); (try with_reducible rfl)
  (try simp only [Act.put, List.setIfInBounds_toArray, List.set_cons_succ, List.set_cons_zero])
  refine wpE_take (i := 24) (oi := { dst := some 118, op := Go.Op.load 3 (Go.Operand.tmp 117), type := 3, pos := "law.go:49", after := #[{ on := 23, ground := Go.Ground.data }, { on := 15, ground := Go.Ground.guard }], guard := some (15, true) }) (v := ?_) rfl (by kernel_rfl) (fun _ _ _ h => h) (Or.inl ⟨by rfl, fun W hW => ?_⟩) hS ?_
  rotate_left
  · obtain ⟨hw1, hw2, hw3, hw4, hw5, hw6, hw7, hw8, hw9⟩ := hW; go_simp; (try go_bits); (try rw [if_pos (by omega)]); (try with_reducible rfl)
  (try simp only [Act.put, List.setIfInBounds_toArray, List.set_cons_succ, List.set_cons_zero])
  refine wpE_only (i := 20) (oi := { dst := some 114, op := Go.Op.call { callee := Go.Callee.value (Go.Operand.func 22), args := #[Go.Operand.tmp 111, Go.Operand.tmp 113], argTypes := #[24, 3] }, type := 22, pos := "law.go:49", after := #[{ on := 17, ground := Go.Ground.data }, { on := 19, ground := Go.Ground.data }, { on := 15, ground := Go.Ground.chain }, { on := 15, ground := Go.Ground.guard }], guard := some (15, true) }) rfl (by kernel_rfl) (by rfl) (fun K hK => ?_)
  go_simp; refine HC.out.1.mono ?_; rintro e wz ⟨rfl, rfl⟩
  refine hK _ _ hS ?_; clear hK K
  (try simp only [Act.put, List.setIfInBounds_toArray, List.set_cons_succ, List.set_cons_zero])
  refine wpE_only (i := 25) (oi := { dst := some 119, op := Go.Op.call { callee := Go.Callee.value (Go.Operand.func 46), args := #[Go.Operand.tmp 116, Go.Operand.tmp 118], argTypes := #[25, 3] }, type := 22, pos := "law.go:49", after := #[{ on := 22, ground := Go.Ground.data }, { on := 24, ground := Go.Ground.data }, { on := 20, ground := Go.Ground.chain }, { on := 15, ground := Go.Ground.guard }], guard := some (15, true) }) rfl (by kernel_rfl) (by rfl) (fun K hK => ?_)
  go_simp; refine HC.out.2.mono ?_; rintro e wz ⟨rfl, rfl⟩
  refine hK _ _ hS ?_; clear hK K
  (try simp only [Act.put, List.setIfInBounds_toArray, List.set_cons_succ, List.set_cons_zero])
  refine wpE_take (i := 26) (oi := { dst := some 120, op := Go.Op.binOp Go.BinOp.eql 22 (Go.Operand.tmp 114) (Go.Operand.tmp 119) 22, type := 4, pos := "law.go:49", after := #[{ on := 20, ground := Go.Ground.data }, { on := 25, ground := Go.Ground.data }, { on := 15, ground := Go.Ground.guard }], guard := some (15, true) }) (v := ?_) rfl (by kernel_rfl) (fun _ _ _ h => h) (Or.inl ⟨by rfl, fun W hW => ?_⟩) hS ?_
  rotate_left
  · obtain ⟨hw1, hw2, hw3, hw4, hw5, hw6, hw7, hw8, hw9⟩ := hW; go_simp; (try go_bits); (try rw [if_pos (by omega)]); (try with_reducible rfl)
  (try simp only [Act.put, List.setIfInBounds_toArray, List.set_cons_succ, List.set_cons_zero])
  refine wpE_take (i := 27) (oi := { dst := some 121, op := Go.Op.pick (Go.Operand.tmp 109) (Go.Operand.tmp 120) (Go.Operand.const (Go.Value.bool false)), type := 4, pos := "law.go:49", after := #[{ on := 15, ground := Go.Ground.data }, { on := 26, ground := Go.Ground.data }], guard := none }) (v := ?_) rfl (by kernel_rfl) (fun _ _ _ h => h) (Or.inl ⟨by rfl, fun W hW => ?_⟩) hS ?_
  rotate_left
  · obtain ⟨hw1, hw2, hw3, hw4, hw5, hw6, hw7, hw8, hw9⟩ := hW; go_simp; (try go_bits); (try rw [if_pos (by omega)]); (try with_reducible rfl)
  (try simp only [Act.put, List.setIfInBounds_toArray, List.set_cons_succ, List.set_cons_zero])
  refine wpE_last (oi := { dst := some 4, op := Go.Op.assign (Go.Operand.tmp 121), type := 4, pos := "law.go:49", after := #[{ on := 27, ground := Go.Ground.data }, { on := 25, ground := Go.Ground.chain }, { on := 0, ground := Go.Ground.phase }, { on := 1, ground := Go.Ground.phase }, { on := 2, ground := Go.Ground.phase }, { on := 3, ground := Go.Ground.phase }, { on := 4, ground := Go.Ground.phase }, { on := 5, ground := Go.Ground.phase }, { on := 6, ground := Go.Ground.phase }, { on := 7, ground := Go.Ground.phase }, { on := 8, ground := Go.Ground.phase }, { on := 9, ground := Go.Ground.phase }, { on := 10, ground := Go.Ground.phase }, { on := 11, ground := Go.Ground.phase }, { on := 12, ground := Go.Ground.phase }, { on := 13, ground := Go.Ground.phase }, { on := 14, ground := Go.Ground.phase }, { on := 15, ground := Go.Ground.phase }, { on := 16, ground := Go.Ground.phase }, { on := 17, ground := Go.Ground.phase }, { on := 18, ground := Go.Ground.phase }, { on := 19, ground := Go.Ground.phase }, { on := 20, ground := Go.Ground.phase }, { on := 21, ground := Go.Ground.phase }, { on := 22, ground := Go.Ground.phase }, { on := 23, ground := Go.Ground.phase }, { on := 24, ground := Go.Ground.phase }, { on := 25, ground := Go.Ground.phase }, { on := 26, ground := Go.Ground.phase }, { on := 27, ground := Go.Ground.phase }], guard := none }) rfl (by kernel_rfl) (by kernel_rfl) (by rfl) (fun K hK => ?_)
  go_simp; (try go_bits); refine hK _ _ ?_; clear hK K
  clear hS
  go_wp2
  go_ret
  exact ⟨rfl, own1, _, _, _, ms, H3.out.1, H3.out.2.1, H3.out.2.2.1, Hd.out.2.2.2.2.set xd xa hba, by omega⟩
set_option maxHeartbeats 2000000 in
theorem do_3 (hA : PA own w p rp tp r s m l) (hD : PD own w q p2 t2 r s m l ms) (hI : PI s l ms) (hms : ms.length < 4398046511103) (hbk : i64B xk) (hbs : i64B xs) (hba : xa < 18446744073709551616) (hbv : xv < 18446744073709551616) (hk : xk % 11 = 3) :
    Calls Try.prog 29 #[.agg #[.pointer (some ⟨p, 0, none⟩), .pointer (some ⟨q, 0, none⟩), .pointer (some ⟨rp, 0, none⟩), .pointer (some ⟨p2, 0, none⟩)], .agg #[.int .i64 xk, .int .i64 xd, .int .i64 xs, .int .u64 (xa : Int), .int .u64 (xv : Int), .bool xw, .int .i64 xg, .int .i64 xq]] w fun e w' => e = .returned (.bool true) ∧ ∃ own' s' m' l' ms', Step (fun x => x ≠ 0 ∧ x < 50) own w own' w' ∧ PA own' w' p rp tp r s' m' l' ∧ PD own' w' q p2 t2 r s' m' l' ms' ∧ PI s' l' ms' ∧ ms'.length ≤ ms.length + 1 := by
  have P1 := fun w => place_calls xk 11 w hbk.1 hbk.2 (by decide) (by decide)
  rw [hk] at P1
  have HP := Lib.hid P1
  have hS1 : Step (fun _ => False) own w (ext own w 50) (w.alloc (.cells #[.pointer (some ⟨p, 0, none⟩), .pointer (some ⟨q, 0, none⟩), .pointer (some ⟨rp, 0, none⟩), .pointer (some ⟨p2, 0, none⟩)] 31)) := ⟨(Upd.refl _ _).alloc _, fun b hb => ext_old _ _ _ hb⟩
  have hS2 : Step (fun _ => False) (ext own w 50) (w.alloc (.cells #[.pointer (some ⟨p, 0, none⟩), .pointer (some ⟨q, 0, none⟩), .pointer (some ⟨rp, 0, none⟩), .pointer (some ⟨p2, 0, none⟩)] 31)) (ext (ext own w 50) (w.alloc (.cells #[.pointer (some ⟨p, 0, none⟩), .pointer (some ⟨q, 0, none⟩), .pointer (some ⟨rp, 0, none⟩), .pointer (some ⟨p2, 0, none⟩)] 31)) 50) ((w.alloc (.cells #[.pointer (some ⟨p, 0, none⟩), .pointer (some ⟨q, 0, none⟩), .pointer (some ⟨rp, 0, none⟩), .pointer (some ⟨p2, 0, none⟩)] 31)).alloc (.cells #[.int .i64 xk, .int .i64 xd, .int .i64 xs, .int .u64 (xa : Int), .int .u64 (xv : Int), .bool xw, .int .i64 xg, .int .i64 xq] 54)) := ⟨(Upd.refl _ _).alloc _, fun b hb => ext_old _ _ _ hb⟩
  have hX : DX (ext (ext own w 50) (w.alloc (.cells #[.pointer (some ⟨p, 0, none⟩), .pointer (some ⟨q, 0, none⟩), .pointer (some ⟨rp, 0, none⟩), .pointer (some ⟨p2, 0, none⟩)] 31)) 50) ((w.alloc (.cells #[.pointer (some ⟨p, 0, none⟩), .pointer (some ⟨q, 0, none⟩), .pointer (some ⟨rp, 0, none⟩), .pointer (some ⟨p2, 0, none⟩)] 31)).alloc (.cells #[.int .i64 xk, .int .i64 xd, .int .i64 xs, .int .u64 (xa : Int), .int .u64 (xv : Int), .bool xw, .int .i64 xg, .int .i64 xq] 54)) w.heap.size (w.heap.size + 1) p q rp p2 xk xd xs xa xv xw xg xq := by
    obtain ⟨g1, g2⟩ := hS2.blk (Blk.new w _ _) (ext_new own w 50 (Nat.le_refl _)) (fun h => h)
    have g3 := Blk.new (w.alloc (.cells #[.pointer (some ⟨p, 0, none⟩), .pointer (some ⟨q, 0, none⟩), .pointer (some ⟨rp, 0, none⟩), .pointer (some ⟨p2, 0, none⟩)] 31)) 54 #[.int .i64 xk, .int .i64 xd, .int .i64 xs, .int .u64 (xa : Int), .int .u64 (xv : Int), .bool xw, .int .i64 xg, .int .i64 xq]
    have g4 : ext (ext own w 50) (w.alloc (.cells #[.pointer (some ⟨p, 0, none⟩), .pointer (some ⟨q, 0, none⟩), .pointer (some ⟨rp, 0, none⟩), .pointer (some ⟨p2, 0, none⟩)] 31)) 50 (w.alloc (.cells #[.pointer (some ⟨p, 0, none⟩), .pointer (some ⟨q, 0, none⟩), .pointer (some ⟨rp, 0, none⟩), .pointer (some ⟨p2, 0, none⟩)] 31)).heap.size = 50 := ext_new _ _ _ (Nat.le_refl _)
    rw [World.size_alloc] at g3 g4
    exact ⟨g1, g2, g3, g4⟩
  have hS := hS1.trans hS2
  have hA1 := hA.step hS (fun x h => h.elim)
  have hD1 := hD.step hS (fun x h => h.elim)
  obtain ⟨b0, b1, x1, x2, x3, x4, x5, x6, x7, lb, lx⟩ := hX.cells
  have H0 := Lib.hid (And.intro (hS.mono (C' := fun x => x ≠ 0 ∧ x < 50) (fun x h => h.elim)) (And.intro hA1 (And.intro hD1 (And.intro hX hI))))
  clear P1 hS1 hS2 hX hS hA1 hD1 hA hD hk hI
  go_enter Try.func29, Try.ntmps29
  go_wp2_with fail
  ((with_reducible refine (HP.out _).mono ?_); rintro e wz ⟨rfl, rfl⟩)
  clear HP
  generalize (ext (ext own w 50) (w.alloc (.cells #[.pointer (some ⟨p, 0, none⟩), .pointer (some ⟨q, 0, none⟩), .pointer (some ⟨rp, 0, none⟩), .pointer (some ⟨p2, 0, none⟩)] 31)) 50) = own1 at *
  generalize ((w.alloc (.cells #[.pointer (some ⟨p, 0, none⟩), .pointer (some ⟨q, 0, none⟩), .pointer (some ⟨rp, 0, none⟩), .pointer (some ⟨p2, 0, none⟩)] 31)).alloc (.cells #[.int .i64 xk, .int .i64 xd, .int .i64 xs, .int .u64 (xa : Int), .int .u64 (xv : Int), .bool xw, .int .i64 xg, .int .i64 xq] 54)) = w1 at *
  generalize hob : w.heap.size = ob at *
  generalize hxb : ob + 1 = xb at *
  have hdr : Step (fun _ => False) own1 w1 own1 w1.drew := (Step.refl _ _ _).drew
  have Hd := Lib.hid (And.intro (H0.out.1.trans (hdr.mono (fun x h => h.elim))) (And.intro (H0.out.2.1.step hdr (fun x h => h.elim)) (And.intro (H0.out.2.2.1.step hdr (fun x h => h.elim)) (And.intro (H0.out.2.2.2.1.step hdr (fun h => h)) H0.out.2.2.2.2))))
  have HDS := Lib.hid (H0.out.2.2.2.1.dS H0.out.2.2.1)
  clear hdr
  have HA := Lib.hid (io_DropX Hd.out.2.1.u xd)
  go_wp2_with fail
  refine wpE_region (S := dS ob xb q p t2 xd xs xa xv xg xq) (s := 24) (by kernel_rfl) ?_
  have hS : (dS ob xb q p t2 xd xs xa xv xg xq) _ := HDS.out
  refine wpE_take (i := 0) (oi := { dst := some 124, op := Go.Op.fieldAddr 31 (Go.Operand.tmp 2) 0, type := 0, pos := "law.go:51", after := #[], guard := none }) (v := ?_) rfl (by kernel_rfl) (fun _ _ _ h => h) (Or.inl ⟨by rfl, fun W hW => ?_⟩) hS ?_
  rotate_left
  · obtain ⟨hw1, hw2, hw3, hw4, hw5, hw6, hw7, hw8, hw9⟩ := hW; go_simp; (try go_bits); (try rw [if_pos (by omega)]); (try with_reducible rfl)
  (try simp only [Act.put, List.setIfInBounds_toArray, List.set_cons_succ, List.set_cons_zero])
  refine wpE_take (i := 1) (oi := { dst := some 125, op := Go.Op.load 24 (Go.Operand.tmp 124), type := 24, pos := "law.go:51", after := #[{ on := 0, ground := Go.Ground.data }], guard := none }) (v := ?_) rfl (by kernel_rfl) (fun _ _ _ h => h) (Or.inl ⟨by rfl, fun W hW => ?_⟩) hS ?_
  rotate_left
  · obtain ⟨hw1, hw2, hw3, hw4, hw5, hw6, hw7, hw8, hw9⟩ := hW; go_simp; (try go_bits); (try rw [if_pos (by omega)]); (try with_reducible rfl)
  (try simp only [Act.put, List.setIfInBounds_toArray, List.set_cons_succ, List.set_cons_zero])
  refine wpE_take (i := 2) (oi := { dst := some 126, op := Go.Op.fieldAddr 54 (Go.Operand.tmp 3) 1, type := 0, pos := "law.go:51", after := #[], guard := none }) (v := ?_) rfl (by kernel_rfl) (fun _ _ _ h => h) (Or.inl ⟨by rfl, fun W hW => ?_⟩) hS ?_
  rotate_left
  · obtain ⟨hw1, hw2, hw3, hw4, hw5, hw6, hw7, hw8, hw9⟩ := hW; go_simp; (try go_bits); (try rw [if_pos (by omega)]); (try with_reducible rfl)
  (try simp only [Act.put, List.setIfInBounds_toArray, List.set_cons_succ, List.set_cons_zero])
  refine wpE_take (i := 3) (oi := { dst := some 127, op := Go.Op.load 3 (Go.Operand.tmp 126), type := 3, pos := "law.go:51", after := #[{ on := 2, ground := Go.Ground.data }], guard := none }) (v := ?_) rfl (by kernel_rfl) (fun _ _ _ h => h) (Or.inl ⟨by rfl, fun W hW => ?_⟩) hS ?_
  rotate_left
  · obtain ⟨hw1, hw2, hw3, hw4, hw5, hw6, hw7, hw8, hw9⟩ := hW; go_simp; (try go_bits); (try rw [if_pos (by omega)]); (try with_reducible rfl)
  (try simp only [Act.put, List.setIfInBounds_toArray, List.set_cons_succ, List.set_cons_zero])
  refine wpE_take (i := 5) (oi := { dst := some 129, op := Go.Op.fieldAddr 31 (Go.Operand.tmp 2) 1, type := 0, pos := "law.go:51", after := #[], guard := none }) (v := ?_) rfl (by kernel_rfl) (fun _ _ _ h => h) (Or.inl ⟨by rfl, fun W hW => ?_⟩) hS ?_
  rotate_left
  · obtain ⟨hw1, hw2, hw3, hw4, hw5, hw6, hw7, hw8, hw9⟩ := hW; go_simp; (try go_bits); (try rw [if_pos (by omega)]); (try with_reducible rfl)
  (try simp only [Act.put, List.setIfInBounds_toArray, List.set_cons_succ, List.set_cons_zero])
  refine wpE_take (i := 6) (oi := { dst := some 130, op := Go.Op.load 25 (Go.Operand.tmp 129), type := 25, pos := "law.go:51", after := #[{ on := 5, ground := Go.Ground.data }], guard := none }) (v := ?_) rfl (by kernel_rfl) (fun _ _ _ h => h) (Or.inl ⟨by rfl, fun W hW => ?_⟩) hS ?_
  rotate_left
  · obtain ⟨hw1, hw2, hw3, hw4, hw5, hw6, hw7, hw8, hw9⟩ := hW; go_simp; (try go_bits); (try rw [if_pos (by omega)]); (try with_reducible rfl)
  (try simp only [Act.put, List.setIfInBounds_toArray, List.set_cons_succ, List.set_cons_zero])
  refine wpE_take (i := 7) (oi := { dst := some 131, op := Go.Op.fieldAddr 54 (Go.Operand.tmp 3) 1, type := 0, pos := "law.go:51", after := #[], guard := none }) (v := ?_) rfl (by kernel_rfl) (fun _ _ _ h => h) (Or.inl ⟨by rfl, fun W hW => ?_⟩) hS ?_
  rotate_left
  · obtain ⟨hw1, hw2, hw3, hw4, hw5, hw6, hw7, hw8, hw9⟩ := hW; go_simp; (try go_bits); (try rw [if_pos (by omega)]); (try with_reducible rfl)
  (try simp only [Act.put, List.setIfInBounds_toArray, List.set_cons_succ, List.set_cons_zero])
  refine wpE_take (i := 8) (oi := { dst := some 132, op := Go.Op.load 3 (Go.Operand.tmp 131), type := 3, pos := "law.go:51", after := #[{ on := 7, ground := Go.Ground.data }], guard := none }) (v := ?_) rfl (by kernel_rfl) (fun _ _ _ h => h) (Or.inl ⟨by rfl, fun W hW => ?_⟩) hS ?_
  rotate_left
  · obtain ⟨hw1, hw2, hw3, hw4, hw5, hw6, hw7, hw8, hw9⟩ := hW; go_simp; (try go_bits); (try rw [if_pos (by omega)]); (try with_reducible rfl)
  (try simp only [Act.put, List.setIfInBounds_toArray, List.set_cons_succ, List.set_cons_zero])
  refine wpE_only (i := 4) (oi := { dst := some 128, op := Go.Op.call { callee := Go.Callee.value (Go.Operand.func 20), args := #[Go.Operand.tmp 125, Go.Operand.tmp 127], argTypes := #[24, 3] }, type := 35, pos := "law.go:51", after := #[{ on := 1, ground := Go.Ground.data }, { on := 3, ground := Go.Ground.data }], guard := none }) rfl (by kernel_rfl) (by rfl) (fun K hK => ?_)
  go_simp; refine HA.out.mono ?_; rintro e w2 ⟨rfl, hS2, hU2⟩
  have hP2 : PA own1 w2 p rp tp r (dropSA s xd) m l := ⟨hU2, Hd.out.2.1.mm.step hS2 (by decide), Hd.out.2.1.t.step hS2 (by decide) (by decide)⟩
  have hD2 := Hd.out.2.2.1.step hS2 (by omega)
  have hX2 := Hd.out.2.2.2.1.step hS2 (by omega)
  have HB := Lib.hid (uref_Drop hD2.ur (by decide) xd)
  have H2 := Lib.hid (And.intro (Hd.out.1.trans (hS2.mono (fun x h => by omega))) (And.intro hP2 (And.intro hD2 hX2)))
  have hS := hX2.dS hD2
  clear hS2 hU2 hP2 hD2 hX2 HA
  refine hK _ _ hS ?_; clear hK K
  (try simp only [Act.put, List.setIfInBounds_toArray, List.set_cons_succ, List.set_cons_zero])
  refine wpE_only (i := 9) (oi := { dst := some 133, op := Go.Op.call { callee := Go.Callee.value (Go.Operand.func 47), args := #[Go.Operand.tmp 130, Go.Operand.tmp 132], argTypes := #[25, 3] }, type := 3, pos := "law.go:51", after := #[{ on := 6, ground := Go.Ground.data }, { on := 8, ground := Go.Ground.data }, { on := 4, ground := Go.Ground.chain }], guard := none }) rfl (by kernel_rfl) (by rfl) (fun K hK => ?_)
  go_simp; refine HB.out.mono ?_; rintro e w3 ⟨rfl, hS3, hU3⟩
  have hD3 : PD own1 w3 q p2 t2 r (dropSA s xd) m l ms := ⟨H2.out.2.2.1.mr.step hS3 (by decide), hU3, H2.out.2.2.1.tr.step hS3 (by decide) (by decide)⟩
  have hP3 := H2.out.2.1.step hS3 (by omega)
  have hX3 := H2.out.2.2.2.step hS3 (by omega)
  have HC := Lib.hid (And.intro (io_Root hP3.u xd) (uref_Root hD3.ur xd))
  have H3 := Lib.hid (And.intro (H2.out.1.trans (hS3.mono (fun x h => by omega))) (And.intro hP3 (And.intro hD3 hX3)))
  have hS := hX3.dS hD3
  clear hS3 hU3 hP3 hD3 hX3 HB
  refine hK _ _ hS ?_; clear hK K
  (try simp only [Act.put, List.setIfInBounds_toArray, List.set_cons_succ, List.set_cons_zero])
  refine wpE_take (i := 10) (oi := { dst := some 134, op := Go.Op.binOp Go.BinOp.eql 3 (Go.Operand.tmp 128) (Go.Operand.tmp 133) 3, type := 4, pos := "law.go:51", after := #[{ on := 4, ground := Go.Ground.data }, { on := 9, ground := Go.Ground.data }], guard := none }) (v := ?_) rfl (by kernel_rfl) (fun _ _ _ h => h) (Or.inl ⟨by rfl, fun W hW => ?_⟩) hS ?_
  rotate_left
  · obtain ⟨hw1, hw2, hw3, hw4, hw5, hw6, hw7, hw8, hw9⟩ := hW; go_simp; (try go_bits); (try rw [if_pos (by omega)]); (try with_reducible rfl)
  (try simp only [Act.put, List.setIfInBounds_toArray, List.set_cons_succ, List.set_cons_zero])
  refine wpE_take (i := 11) (oi := { dst := some 135, op := Go.Op.move (Go.Operand.tmp 134), type := 4, pos := "law.go:51", after := #[{ on := 10, ground := Go.Ground.data }, { on := 9, ground := Go.Ground.chain }], guard := none }) (v := ?_) rfl (by kernel_rfl) (fun _ _ _ h => h) (Or.inl ⟨by rfl, fun W hW => ?_⟩) hS ?_
  rotate_left
  · obtain ⟨hw1, hw2, hw3, hw4, hw5, hw6, hw7, hw8, hw9⟩ := hW; go_simp; (try go_bits); (try rw [if_pos (by omega)]); (try with_reducible rfl)
  (try simp only [Act.put, List.setIfInBounds_toArray, List.set_cons_succ, List.set_cons_zero])
  refine wpE_take (i := 12) (oi := { dst := some 136, op := Go.Op.fieldAddr 31 (Go.Operand.tmp 2) 0, type := 0, pos := "law.go:51", after := #[{ on := 11, ground := Go.Ground.guard }], guard := some (11, true) }) (v := ?_) rfl (by kernel_rfl) (fun _ _ _ h => h) (Or.inl ⟨by rfl, fun W hW => ?_⟩) hS ?_
  rotate_left
  · obtain ⟨hw1, hw2, hw3, hw4, hw5, hw6, hw7, hw8, hw9⟩ := hW; go_simp; (try go_bits); (try rw [if_pos (by omega)]); (try with_reducible rfl)
  (try simp only [Act.put, List.setIfInBounds_toArray, List.set_cons_succ, List.set_cons_zero])
  refine wpE_take (i := 13) (oi := { dst := some 137, op := Go.Op.load 24 (Go.Operand.tmp 136), type := 24, pos := "law.go:51", after := #[{ on := 12, ground := Go.Ground.data }, { on := 11, ground := Go.Ground.guard }], guard := some (11, true) }) (v := ?_) rfl (by kernel_rfl) (fun _ _ _ h => h) (Or.inl ⟨by rfl, fun W hW => ?_⟩) hS ?_
  rotate_left
  · obtain ⟨hw1, hw2, hw3, hw4, hw5, hw6, hw7, hw8, hw9⟩ := hW; go_simp; (try go_bits); (try rw [if_pos (by omega)]); (try with_reducible rfl)
  (try simp only [Act.put, List.setIfInBounds_toArray, List.set_cons_succ, List.set_cons_zero])
  refine wpE_take (i := 14) (oi := { dst := some 138, op := Go.Op.fieldAddr 54 (Go.Operand.tmp 3) 1, type := 0, pos := "law.go:51", after := #[{ on := 11, ground := Go.Ground.guard }], guard := some (11, true) }) (v := ?_) rfl (by kernel_rfl) (fun _ _ _ h => h) (Or.inl ⟨by rfl, fun W hW => ?_⟩) hS ?_
  rotate_left
  · obtain ⟨hw1, hw2, hw3, hw4, hw5, hw6, hw7, hw8, hw9⟩ := hW; go_simp; (try go_bits); (try rw [if_pos (by omega)]); (try with_reducible rfl)
  (try simp only [Act.put, List.setIfInBounds_toArray, List.set_cons_succ, List.set_cons_zero])
  refine wpE_take (i := 15) (oi := { dst := some 139, op := Go.Op.load 3 (Go.Operand.tmp 138), type := 3, pos := "law.go:51", after := #[{ on := 14, ground := Go.Ground.data }, { on := 11, ground := Go.Ground.guard }], guard := some (11, true) }) (v := ?_) rfl (by kernel_rfl) (fun _ _ _ h => h) (Or.inl ⟨by rfl, fun W hW => ?_⟩) hS ?_
  rotate_left
  · obtain ⟨hw1, hw2, hw3, hw4, hw5, hw6, hw7, hw8, hw9⟩ := hW; go_simp; (try go_bits); (try rw [if_pos (by omega)]); (try with_reducible rfl)
  (try simp only [Act.put, List.setIfInBounds_toArray, List.set_cons_succ, List.set_cons_zero])
  refine wpE_take (i := 17) (oi := { dst := some 141, op := Go.Op.fieldAddr 31 (Go.Operand.tmp 2) 1, type := 0, pos := "law.go:51", after := #[{ on := 11, ground := Go.Ground.guard }], guard := some (11, true) }) (v := ?_) rfl (by kernel_rfl) (fun _ _ _ h => h) (Or.inl ⟨by rfl, fun W hW => ?_⟩) hS ?_
  rotate_left
  · obtain ⟨hw1, hw2, hw3, hw4, hw5, hw6, hw7, hw8, hw9⟩ := hW; go_simp; (try go_bits); (try rw [if_pos (by omega)]); (try with_reducible rfl)
  (try simp only [Act.put, List.setIfInBounds_toArray, List.set_cons_succ, List.set_cons_zero])
  refine wpE_take (i := 18) (oi := { dst := some 142, op := Go.Op.load 25 (Go.Operand.tmp 141), type := 25, pos := "law.go:51", after := #[{ on := 17, ground := Go.Ground.data }, { on := 11, ground := Go.Ground.guard }], guard := some (11, true) }) (v := ?_) rfl (by kernel_rfl) (fun _ _ _ h => h) (Or.inl ⟨by rfl, fun W hW => ?_⟩) hS ?_
  rotate_left
  · obtain ⟨hw1, hw2, hw3, hw4, hw5, hw6, hw7, hw8, hw9⟩ := hW; go_simp; (try go_bits); (try rw [if_pos (by omega)]); (try with_reducible rfl)
  (try simp only [Act.put, List.setIfInBounds_toArray, List.set_cons_succ, List.set_cons_zero])
  refine wpE_take (i := 19) (oi := { dst := some 143, op := Go.Op.fieldAddr 54 (Go.Operand.tmp 3) 1, type := 0, pos := "law.go:51", after := #[{ on := 11, ground := Go.Ground.guard }], guard := some (11, true) }) (v := ?_) rfl (by kernel_rfl) (fun _ _ _ h => h) (Or.inl ⟨by rfl, fun W hW => ?_⟩) hS ?_
  rotate_left
  · obtain ⟨hw1, hw2, hw3, hw4, hw5, hw6, hw7, hw8, hw9⟩ := hW; go_simp; (try go_bits); (try rw [if_pos (by omega)]); (try with_reducible rfl)
  (try simp only [Act.put, List.setIfInBounds_toArray, List.set_cons_succ, List.set_cons_zero])
  refine wpE_take (i := 20) (oi := { dst := some 144, op := Go.Op.load 3 (Go.Operand.tmp 143), type := 3, pos := "law.go:51", after := #[{ on := 19, ground := Go.Ground.data }, { on := 11, ground := Go.Ground.guard }], guard := some (11, true) }) (v := ?_) rfl (by kernel_rfl) (fun _ _ _ h => h) (Or.inl ⟨by rfl, fun W hW => ?_⟩) hS ?_
  rotate_left
  · obtain ⟨hw1, hw2, hw3, hw4, hw5, hw6, hw7, hw8, hw9⟩ := hW; go_simp; (try go_bits); (try rw [if_pos (by omega)]); (try with_reducible rfl)
  (try simp only [Act.put, List.setIfInBounds_toArray, List.set_cons_succ, List.set_cons_zero])
  refine wpE_only (i := 16) (oi := { dst := some 140, op := Go.Op.call { callee := Go.Callee.value (Go.Operand.func 22), args := #[Go.Operand.tmp 137, Go.Operand.tmp 139], argTypes := #[24, 3] }, type := 22, pos := "law.go:51", after := #[{ on := 13, ground := Go.Ground.data }, { on := 15, ground := Go.Ground.data }, { on := 11, ground := Go.Ground.chain }, { on := 11, ground := Go.Ground.guard }], guard := some (11, true) }) rfl (by kernel_rfl) (by rfl) (fun K hK => ?_)
  go_simp; refine HC.out.1.mono ?_; rintro e wz ⟨rfl, rfl⟩
  refine hK _ _ hS ?_; clear hK K
  (try simp only [Act.put, List.setIfInBounds_toArray, List.set_cons_succ, List.set_cons_zero])
  refine wpE_only (i := 21) (oi := { dst := some 145, op := Go.Op.call { callee := Go.Callee.value (Go.Operand.func 46), args := #[Go.Operand.tmp 142, Go.Operand.tmp 144], argTypes := #[25, 3] }, type := 22, pos := "law.go:51", after := #[{ on := 18, ground := Go.Ground.data }, { on := 20, ground := Go.Ground.data }, { on := 16, ground := Go.Ground.chain }, { on := 11, ground := Go.Ground.guard }], guard := some (11, true) }) rfl (by kernel_rfl) (by rfl) (fun K hK => ?_)
  go_simp; refine HC.out.2.mono ?_; rintro e wz ⟨rfl, rfl⟩
  refine hK _ _ hS ?_; clear hK K
  (try simp only [Act.put, List.setIfInBounds_toArray, List.set_cons_succ, List.set_cons_zero])
  refine wpE_take (i := 22) (oi := { dst := some 146, op := Go.Op.binOp Go.BinOp.eql 22 (Go.Operand.tmp 140) (Go.Operand.tmp 145) 22, type := 4, pos := "law.go:51", after := #[{ on := 16, ground := Go.Ground.data }, { on := 21, ground := Go.Ground.data }, { on := 11, ground := Go.Ground.guard }], guard := some (11, true) }) (v := ?_) rfl (by kernel_rfl) (fun _ _ _ h => h) (Or.inl ⟨by rfl, fun W hW => ?_⟩) hS ?_
  rotate_left
  · obtain ⟨hw1, hw2, hw3, hw4, hw5, hw6, hw7, hw8, hw9⟩ := hW; go_simp; (try go_bits); (try rw [if_pos (by omega)]); (try with_reducible rfl)
  (try simp only [Act.put, List.setIfInBounds_toArray, List.set_cons_succ, List.set_cons_zero])
  refine wpE_take (i := 23) (oi := { dst := some 147, op := Go.Op.pick (Go.Operand.tmp 135) (Go.Operand.tmp 146) (Go.Operand.const (Go.Value.bool false)), type := 4, pos := "law.go:51", after := #[{ on := 11, ground := Go.Ground.data }, { on := 22, ground := Go.Ground.data }], guard := none }) (v := ?_) rfl (by kernel_rfl) (fun _ _ _ h => h) (Or.inl ⟨by rfl, fun W hW => ?_⟩) hS ?_
  rotate_left
  · obtain ⟨hw1, hw2, hw3, hw4, hw5, hw6, hw7, hw8, hw9⟩ := hW; go_simp; (try go_bits); (try rw [if_pos (by omega)]); (try with_reducible rfl)
  (try simp only [Act.put, List.setIfInBounds_toArray, List.set_cons_succ, List.set_cons_zero])
  refine wpE_last (oi := { dst := some 4, op := Go.Op.assign (Go.Operand.tmp 147), type := 4, pos := "law.go:51", after := #[{ on := 23, ground := Go.Ground.data }, { on := 21, ground := Go.Ground.chain }, { on := 0, ground := Go.Ground.phase }, { on := 1, ground := Go.Ground.phase }, { on := 2, ground := Go.Ground.phase }, { on := 3, ground := Go.Ground.phase }, { on := 4, ground := Go.Ground.phase }, { on := 5, ground := Go.Ground.phase }, { on := 6, ground := Go.Ground.phase }, { on := 7, ground := Go.Ground.phase }, { on := 8, ground := Go.Ground.phase }, { on := 9, ground := Go.Ground.phase }, { on := 10, ground := Go.Ground.phase }, { on := 11, ground := Go.Ground.phase }, { on := 12, ground := Go.Ground.phase }, { on := 13, ground := Go.Ground.phase }, { on := 14, ground := Go.Ground.phase }, { on := 15, ground := Go.Ground.phase }, { on := 16, ground := Go.Ground.phase }, { on := 17, ground := Go.Ground.phase }, { on := 18, ground := Go.Ground.phase }, { on := 19, ground := Go.Ground.phase }, { on := 20, ground := Go.Ground.phase }, { on := 21, ground := Go.Ground.phase }, { on := 22, ground := Go.Ground.phase }, { on := 23, ground := Go.Ground.phase }], guard := none }) rfl (by kernel_rfl) (by kernel_rfl) (by rfl) (fun K hK => ?_)
  go_simp; (try go_bits); refine hK _ _ ?_; clear hK K
  clear hS
  go_wp2
  go_ret
  exact ⟨rfl, own1, _, _, _, ms, H3.out.1, H3.out.2.1, H3.out.2.2.1, Hd.out.2.2.2.2.drop xd, by omega⟩
set_option maxHeartbeats 2000000 in
theorem do_4 (hA : PA own w p rp tp r s m l) (hD : PD own w q p2 t2 r s m l ms) (hI : PI s l ms) (hms : ms.length < 4398046511103) (hbk : i64B xk) (hbs : i64B xs) (hba : xa < 18446744073709551616) (hbv : xv < 18446744073709551616) (hk : xk % 11 = 4) :
    Calls Try.prog 29 #[.agg #[.pointer (some ⟨p, 0, none⟩), .pointer (some ⟨q, 0, none⟩), .pointer (some ⟨rp, 0, none⟩), .pointer (some ⟨p2, 0, none⟩)], .agg #[.int .i64 xk, .int .i64 xd, .int .i64 xs, .int .u64 (xa : Int), .int .u64 (xv : Int), .bool xw, .int .i64 xg, .int .i64 xq]] w fun e w' => e = .returned (.bool true) ∧ ∃ own' s' m' l' ms', Step (fun x => x ≠ 0 ∧ x < 50) own w own' w' ∧ PA own' w' p rp tp r s' m' l' ∧ PD own' w' q p2 t2 r s' m' l' ms' ∧ PI s' l' ms' ∧ ms'.length ≤ ms.length + 1 := by
  have P1 := fun w => place_calls xk 11 w hbk.1 hbk.2 (by decide) (by decide)
  rw [hk] at P1
  have HP := Lib.hid P1
  have hS1 : Step (fun _ => False) own w (ext own w 50) (w.alloc (.cells #[.pointer (some ⟨p, 0, none⟩), .pointer (some ⟨q, 0, none⟩), .pointer (some ⟨rp, 0, none⟩), .pointer (some ⟨p2, 0, none⟩)] 31)) := ⟨(Upd.refl _ _).alloc _, fun b hb => ext_old _ _ _ hb⟩
  have hS2 : Step (fun _ => False) (ext own w 50) (w.alloc (.cells #[.pointer (some ⟨p, 0, none⟩), .pointer (some ⟨q, 0, none⟩), .pointer (some ⟨rp, 0, none⟩), .pointer (some ⟨p2, 0, none⟩)] 31)) (ext (ext own w 50) (w.alloc (.cells #[.pointer (some ⟨p, 0, none⟩), .pointer (some ⟨q, 0, none⟩), .pointer (some ⟨rp, 0, none⟩), .pointer (some ⟨p2, 0, none⟩)] 31)) 50) ((w.alloc (.cells #[.pointer (some ⟨p, 0, none⟩), .pointer (some ⟨q, 0, none⟩), .pointer (some ⟨rp, 0, none⟩), .pointer (some ⟨p2, 0, none⟩)] 31)).alloc (.cells #[.int .i64 xk, .int .i64 xd, .int .i64 xs, .int .u64 (xa : Int), .int .u64 (xv : Int), .bool xw, .int .i64 xg, .int .i64 xq] 54)) := ⟨(Upd.refl _ _).alloc _, fun b hb => ext_old _ _ _ hb⟩
  have hX : DX (ext (ext own w 50) (w.alloc (.cells #[.pointer (some ⟨p, 0, none⟩), .pointer (some ⟨q, 0, none⟩), .pointer (some ⟨rp, 0, none⟩), .pointer (some ⟨p2, 0, none⟩)] 31)) 50) ((w.alloc (.cells #[.pointer (some ⟨p, 0, none⟩), .pointer (some ⟨q, 0, none⟩), .pointer (some ⟨rp, 0, none⟩), .pointer (some ⟨p2, 0, none⟩)] 31)).alloc (.cells #[.int .i64 xk, .int .i64 xd, .int .i64 xs, .int .u64 (xa : Int), .int .u64 (xv : Int), .bool xw, .int .i64 xg, .int .i64 xq] 54)) w.heap.size (w.heap.size + 1) p q rp p2 xk xd xs xa xv xw xg xq := by
    obtain ⟨g1, g2⟩ := hS2.blk (Blk.new w _ _) (ext_new own w 50 (Nat.le_refl _)) (fun h => h)
    have g3 := Blk.new (w.alloc (.cells #[.pointer (some ⟨p, 0, none⟩), .pointer (some ⟨q, 0, none⟩), .pointer (some ⟨rp, 0, none⟩), .pointer (some ⟨p2, 0, none⟩)] 31)) 54 #[.int .i64 xk, .int .i64 xd, .int .i64 xs, .int .u64 (xa : Int), .int .u64 (xv : Int), .bool xw, .int .i64 xg, .int .i64 xq]
    have g4 : ext (ext own w 50) (w.alloc (.cells #[.pointer (some ⟨p, 0, none⟩), .pointer (some ⟨q, 0, none⟩), .pointer (some ⟨rp, 0, none⟩), .pointer (some ⟨p2, 0, none⟩)] 31)) 50 (w.alloc (.cells #[.pointer (some ⟨p, 0, none⟩), .pointer (some ⟨q, 0, none⟩), .pointer (some ⟨rp, 0, none⟩), .pointer (some ⟨p2, 0, none⟩)] 31)).heap.size = 50 := ext_new _ _ _ (Nat.le_refl _)
    rw [World.size_alloc] at g3 g4
    exact ⟨g1, g2, g3, g4⟩
  have hS := hS1.trans hS2
  have hA1 := hA.step hS (fun x h => h.elim)
  have hD1 := hD.step hS (fun x h => h.elim)
  obtain ⟨b0, b1, x1, x2, x3, x4, x5, x6, x7, lb, lx⟩ := hX.cells
  have H0 := Lib.hid (And.intro (hS.mono (C' := fun x => x ≠ 0 ∧ x < 50) (fun x h => h.elim)) (And.intro hA1 (And.intro hD1 (And.intro hX hI))))
  clear P1 hS1 hS2 hX hS hA1 hD1 hA hD hk hI
  go_enter Try.func29, Try.ntmps29
  go_wp2_with fail
  ((with_reducible refine (HP.out _).mono ?_); rintro e wz ⟨rfl, rfl⟩)
  clear HP
  generalize (ext (ext own w 50) (w.alloc (.cells #[.pointer (some ⟨p, 0, none⟩), .pointer (some ⟨q, 0, none⟩), .pointer (some ⟨rp, 0, none⟩), .pointer (some ⟨p2, 0, none⟩)] 31)) 50) = own1 at *
  generalize ((w.alloc (.cells #[.pointer (some ⟨p, 0, none⟩), .pointer (some ⟨q, 0, none⟩), .pointer (some ⟨rp, 0, none⟩), .pointer (some ⟨p2, 0, none⟩)] 31)).alloc (.cells #[.int .i64 xk, .int .i64 xd, .int .i64 xs, .int .u64 (xa : Int), .int .u64 (xv : Int), .bool xw, .int .i64 xg, .int .i64 xq] 54)) = w1 at *
  generalize hob : w.heap.size = ob at *
  generalize hxb : ob + 1 = xb at *
  have hdr : Step (fun _ => False) own1 w1 own1 w1.drew := (Step.refl _ _ _).drew
  have Hd := Lib.hid (And.intro (H0.out.1.trans (hdr.mono (fun x h => h.elim))) (And.intro (H0.out.2.1.step hdr (fun x h => h.elim)) (And.intro (H0.out.2.2.1.step hdr (fun x h => h.elim)) (And.intro (H0.out.2.2.2.1.step hdr (fun h => h)) H0.out.2.2.2.2))))
  have HDS := Lib.hid (H0.out.2.2.2.1.dS H0.out.2.2.1)
  clear hdr
  have hA0 := io_RemapX Hd.out.2.1.u xd xv hbv xg xq
  obtain ⟨z, hz⟩ : ∃ z : Int, (if remOk xd xv then (0 : Int) else 1) = z := ⟨_, rfl⟩
  rw [hz] at hA0
  have HA := Lib.hid hA0
  have HZ := Lib.hid hz
  clear hA0 hz
  go_wp2_with fail
  refine wpE_region (S := dS ob xb q p t2 xd xs xa xv xg xq) (s := 19) (by kernel_rfl) ?_
  have hS : (dS ob xb q p t2 xd xs xa xv xg xq) _ := HDS.out
  refine wpE_take (i := 0) (oi := { dst := some 150, op := Go.Op.fieldAddr 31 (Go.Operand.tmp 2) 0, type := 0, pos := "law.go:53", after := #[], guard := none }) (v := ?_) rfl (by kernel_rfl) (fun _ _ _ h => h) (Or.inl ⟨by rfl, fun W hW => ?_⟩) hS ?_
  rotate_left
  · obtain ⟨hw1, hw2, hw3, hw4, hw5, hw6, hw7, hw8, hw9⟩ := hW; go_simp; (try go_bits); (try rw [if_pos (by omega)]); (try with_reducible rfl)
  (try simp only [Act.put, List.setIfInBounds_toArray, List.set_cons_succ, List.set_cons_zero])
  refine wpE_take (i := 1) (oi := { dst := some 151, op := Go.Op.load 24 (Go.Operand.tmp 150), type := 24, pos := "law.go:53", after := #[{ on := 0, ground := Go.Ground.data }], guard := none }) (v := ?_) rfl (by kernel_rfl) (fun _ _ _ h => h) (Or.inl ⟨by rfl, fun W hW => ?_⟩) hS ?_
  rotate_left
  · obtain ⟨hw1, hw2, hw3, hw4, hw5, hw6, hw7, hw8, hw9⟩ := hW; go_simp; (try go_bits); (try rw [if_pos (by omega)]); (try with_reducible rfl)
  (try simp only [Act.put, List.setIfInBounds_toArray, List.set_cons_succ, List.set_cons_zero])
  refine wpE_take (i := 2) (oi := { dst := some 152, op := Go.Op.fieldAddr 54 (Go.Operand.tmp 3) 1, type := 0, pos := "law.go:53", after := #[], guard := none }) (v := ?_) rfl (by kernel_rfl) (fun _ _ _ h => h) (Or.inl ⟨by rfl, fun W hW => ?_⟩) hS ?_
  rotate_left
  · obtain ⟨hw1, hw2, hw3, hw4, hw5, hw6, hw7, hw8, hw9⟩ := hW; go_simp; (try go_bits); (try rw [if_pos (by omega)]); (try with_reducible rfl)
  (try simp only [Act.put, List.setIfInBounds_toArray, List.set_cons_succ, List.set_cons_zero])
  refine wpE_take (i := 3) (oi := { dst := some 153, op := Go.Op.load 3 (Go.Operand.tmp 152), type := 3, pos := "law.go:53", after := #[{ on := 2, ground := Go.Ground.data }], guard := none }) (v := ?_) rfl (by kernel_rfl) (fun _ _ _ h => h) (Or.inl ⟨by rfl, fun W hW => ?_⟩) hS ?_
  rotate_left
  · obtain ⟨hw1, hw2, hw3, hw4, hw5, hw6, hw7, hw8, hw9⟩ := hW; go_simp; (try go_bits); (try rw [if_pos (by omega)]); (try with_reducible rfl)
  (try simp only [Act.put, List.setIfInBounds_toArray, List.set_cons_succ, List.set_cons_zero])
  refine wpE_take (i := 4) (oi := { dst := some 154, op := Go.Op.fieldAddr 54 (Go.Operand.tmp 3) 4, type := 0, pos := "law.go:53", after := #[], guard := none }) (v := ?_) rfl (by kernel_rfl) (fun _ _ _ h => h) (Or.inl ⟨by rfl, fun W hW => ?_⟩) hS ?_
  rotate_left
  · obtain ⟨hw1, hw2, hw3, hw4, hw5, hw6, hw7, hw8, hw9⟩ := hW; go_simp; (try go_bits); (try rw [if_pos (by omega)]); (try with_reducible rfl)
  (try simp only [Act.put, List.setIfInBounds_toArray, List.set_cons_succ, List.set_cons_zero])
  refine wpE_take (i := 5) (oi := { dst := some 155, op := Go.Op.load 22 (Go.Operand.tmp 154), type := 22, pos := "law.go:53", after := #[{ on := 4, ground := Go.Ground.data }], guard := none }) (v := ?_) rfl (by kernel_rfl) (fun _ _ _ h => h) (Or.inl ⟨by rfl, fun W hW => ?_⟩) hS ?_
  rotate_left
  · obtain ⟨hw1, hw2, hw3, hw4, hw5, hw6, hw7, hw8, hw9⟩ := hW; go_simp; (try go_bits); (try rw [if_pos (by omega)]); (try with_reducible rfl)
  (try simp only [Act.put, List.setIfInBounds_toArray, List.set_cons_succ, List.set_cons_zero])
  refine wpE_take (i := 6) (oi := { dst := some 156, op := Go.Op.fieldAddr 54 (Go.Operand.tmp 3) 6, type := 0, pos := "law.go:53", after := #[], guard := none }) (v := ?_) rfl (by kernel_rfl) (fun _ _ _ h => h) (Or.inl ⟨by rfl, fun W hW => ?_⟩) hS ?_
  rotate_left
  · obtain ⟨hw1, hw2, hw3, hw4, hw5, hw6, hw7, hw8, hw9⟩ := hW; go_simp; (try go_bits); (try rw [if_pos (by omega)]); (try with_reducible rfl)
  (try simp only [Act.put, List.setIfInBounds_toArray, List.set_cons_succ, List.set_cons_zero])
  refine wpE_take (i := 7) (oi := { dst := some 157, op := Go.Op.load 38 (Go.Operand.tmp 156), type := 38, pos := "law.go:53", after := #[{ on := 6, ground := Go.Ground.data }], guard := none }) (v := ?_) rfl (by kernel_rfl) (fun _ _ _ h => h) (Or.inl ⟨by rfl, fun W hW => ?_⟩) hS ?_
  rotate_left
  · obtain ⟨hw1, hw2, hw3, hw4, hw5, hw6, hw7, hw8, hw9⟩ := hW; go_simp; (try go_bits); (try rw [if_pos (by omega)]); (try with_reducible rfl)
  (try simp only [Act.put, List.setIfInBounds_toArray, List.set_cons_succ, List.set_cons_zero])
  refine wpE_take (i := 9) (oi := { dst := some 159, op := Go.Op.fieldAddr 31 (Go.Operand.tmp 2) 1, type := 0, pos := "law.go:53", after := #[], guard := none }) (v := ?_) rfl (by kernel_rfl) (fun _ _ _ h => h) (Or.inl ⟨by rfl, fun W hW => ?_⟩) hS ?_
  rotate_left
  · obtain ⟨hw1, hw2, hw3, hw4, hw5, hw6, hw7, hw8, hw9⟩ := hW; go_simp; (try go_bits); (try rw [if_pos (by omega)]); (try with_reducible rfl)
  (try simp only [Act.put, List.setIfInBounds_toArray, List.set_cons_succ, List.set_cons_zero])
  refine wpE_take (i := 10) (oi := { dst := some 160, op := Go.Op.load 25 (Go.Operand.tmp 159), type := 25, pos := "law.go:53", after := #[{ on := 9, ground := Go.Ground.data }], guard := none }) (v := ?_) rfl (by kernel_rfl) (fun _ _ _ h => h) (Or.inl ⟨by rfl, fun W hW => ?_⟩) hS ?_
  rotate_left
  · obtain ⟨hw1, hw2, hw3, hw4, hw5, hw6, hw7, hw8, hw9⟩ := hW; go_simp; (try go_bits); (try rw [if_pos (by omega)]); (try with_reducible rfl)
  (try simp only [Act.put, List.setIfInBounds_toArray, List.set_cons_succ, List.set_cons_zero])
  refine wpE_take (i := 11) (oi := { dst := some 161, op := Go.Op.fieldAddr 54 (Go.Operand.tmp 3) 1, type := 0, pos := "law.go:53", after := #[], guard := none }) (v := ?_) rfl (by kernel_rfl) (fun _ _ _ h => h) (Or.inl ⟨by rfl, fun W hW => ?_⟩) hS ?_
  rotate_left
  · obtain ⟨hw1, hw2, hw3, hw4, hw5, hw6, hw7, hw8, hw9⟩ := hW; go_simp; (try go_bits); (try rw [if_pos (by omega)]); (try with_reducible rfl)
  (try simp only [Act.put, List.setIfInBounds_toArray, List.set_cons_succ, List.set_cons_zero])
  refine wpE_take (i := 12) (oi := { dst := some 162, op := Go.Op.load 3 (Go.Operand.tmp 161), type := 3, pos := "law.go:53", after := #[{ on := 11, ground := Go.Ground.data }], guard := none }) (v := ?_) rfl (by kernel_rfl) (fun _ _ _ h => h) (Or.inl ⟨by rfl, fun W hW => ?_⟩) hS ?_
  rotate_left
  · obtain ⟨hw1, hw2, hw3, hw4, hw5, hw6, hw7, hw8, hw9⟩ := hW; go_simp; (try go_bits); (try rw [if_pos (by omega)]); (try with_reducible rfl)
  (try simp only [Act.put, List.setIfInBounds_toArray, List.set_cons_succ, List.set_cons_zero])
  refine wpE_take (i := 13) (oi := { dst := some 163, op := Go.Op.fieldAddr 54 (Go.Operand.tmp 3) 4, type := 0, pos := "law.go:53", after := #[], guard := none }) (v := ?_) rfl (by kernel_rfl) (fun _ _ _ h => h) (Or.inl ⟨by rfl, fun W hW => ?_⟩) hS ?_
  rotate_left
  · obtain ⟨hw1, hw2, hw3, hw4, hw5, hw6, hw7, hw8, hw9⟩ := hW; go_simp; (try go_bits); (try rw [if_pos (by omega)]); (try with_reducible rfl)
  (try simp only [Act.put, List.setIfInBounds_toArray, List.set_cons_succ, List.set_cons_zero])
  refine wpE_take (i := 14) (oi := { dst := some 164, op := Go.Op.load 22 (Go.Operand.tmp 163), type := 22, pos := "law.go:53", after := #[{ on := 13, ground := Go.Ground.data }], guard := none }) (v := ?_) rfl (by kernel_rfl) (fun _ _ _ h => h) (Or.inl ⟨by rfl, fun W hW => ?_⟩) hS ?_
  rotate_left
  · obtain ⟨hw1, hw2, hw3, hw4, hw5, hw6, hw7, hw8, hw9⟩ := hW; go_simp; (try go_bits); (try rw [if_pos (by omega)]); (try with_reducible rfl)
  (try simp only [Act.put, List.setIfInBounds_toArray, List.set_cons_succ, List.set_cons_zero])
  refine wpE_take (i := 15) (oi := { dst := some 165, op := Go.Op.fieldAddr 54 (Go.Operand.tmp 3) 6, type := 0, pos := "law.go:53", after := #[], guard := none }) (v := ?_) rfl (by kernel_rfl) (fun _ _ _ h => h) (Or.inl ⟨by rfl, fun W hW => ?_⟩) hS ?_
  rotate_left
  · obtain ⟨hw1, hw2, hw3, hw4, hw5, hw6, hw7, hw8, hw9⟩ := hW; go_simp; (try go_bits); (try rw [if_pos (by omega)]); (try with_reducible rfl)
  (try simp only [Act.put, List.setIfInBounds_toArray, List.set_cons_succ, List.set_cons_zero])
  refine wpE_take (i := 16) (oi := { dst := some 166, op := Go.Op.load 38 (Go.Operand.tmp 165), type := 38, pos := "law.go:53", after := #[{ on := 15, ground := Go.Ground.data }], guard := none }) (v := ?_) rfl (by kernel_rfl) (fun _ _ _ h => h) (Or.inl ⟨by rfl, fun W hW => ?_⟩) hS ?_
  rotate_left
  · obtain ⟨hw1, hw2, hw3, hw4, hw5, hw6, hw7, hw8, hw9⟩ := hW; go_simp; (try go_bits); (try rw [if_pos (by omega)]); (try with_reducible rfl)
  (try simp only [Act.put, List.setIfInBounds_toArray, List.set_cons_succ, List.set_cons_zero])
  refine wpE_only (i := 8) (oi := { dst := some 158, op := Go.Op.call { callee := Go.Callee.value (Go.Operand.func 14), args := #[Go.Operand.tmp 151, Go.Operand.tmp 153, Go.Operand.tmp 155, Go.Operand.tmp 157], argTypes := #[24, 3, 22, 38] }, type := 35, pos := "law.go:53", after := #[{ on := 1, ground := Go.Ground.data }, { on := 3, ground := Go.Ground.data }, { on := 5, ground := Go.Ground.data }, { on := 7, ground := Go.Ground.data }], guard := none }) rfl (by kernel_rfl) (by rfl) (fun K hK => ?_)
  go_simp; refine HA.out.mono ?_; rintro e w2 ⟨rfl, own2, hS2, hU2⟩
  have hP2 : PA own2 w2 p rp tp r (remS s xd xv xg xq) m l := ⟨hU2, Hd.out.2.1.mm.step hS2 (by decide), Hd.out.2.1.t.step hS2 (by decide) (by decide)⟩
  have hD2 := Hd.out.2.2.1.step hS2 (by omega)
  have hX2 := Hd.out.2.2.2.1.step hS2 (by omega)
  have hB0 := uref_Remap hD2.ur (by decide) (by omega) xd xv hbv xg xq
  rw [HZ.out] at hB0
  have HB := Lib.hid hB0
  have H2 := Lib.hid (And.intro (Hd.out.1.trans (hS2.mono (fun x h => by omega))) (And.intro hP2 (And.intro hD2 hX2)))
  have hS := hX2.dS hD2
  clear hS2 hU2 hP2 hD2 hX2 HA hB0
  refine hK _ _ hS ?_; clear hK K
  (try simp only [Act.put, List.setIfInBounds_toArray, List.set_cons_succ, List.set_cons_zero])
  refine wpE_only (i := 17) (oi := { dst := some 167, op := Go.Op.call { callee := Go.Callee.value (Go.Operand.func 48), args := #[Go.Operand.tmp 160, Go.Operand.tmp 162, Go.Operand.tmp 164, Go.Operand.tmp 166], argTypes := #[25, 3, 22, 38] }, type := 3, pos := "law.go:53", after := #[{ on := 10, ground := Go.Ground.data }, { on := 12, ground := Go.Ground.data }, { on := 14, ground := Go.Ground.data }, { on := 16, ground := Go.Ground.data }, { on := 8, ground := Go.Ground.chain }], guard := none }) rfl (by kernel_rfl) (by rfl) (fun K hK => ?_)
  go_simp; refine HB.out.mono ?_; rintro e w3 ⟨rfl, own3, hS3, hU3⟩
  have hD3 : PD own3 w3 q p2 t2 r (remS s xd xv xg xq) m l (if remOk xd xv then ms ++ [⟨xd, xv, xg, xq⟩] else ms) := ⟨H2.out.2.2.1.mr.step hS3 (by decide), uref_ms hU3 xd xv xg xq, H2.out.2.2.1.tr.step hS3 (by decide) (by decide)⟩
  have hP3 := H2.out.2.1.step hS3 (by omega)
  have hX3 := H2.out.2.2.2.step hS3 (by omega)
  have H3 := Lib.hid (And.intro (H2.out.1.trans (hS3.mono (fun x h => by omega))) (And.intro hP3 hD3))
  have hS := hX3.dS hD3
  clear hS3 hU3 hP3 hD3 hX3 HB
  refine hK _ _ hS ?_; clear hK K
  (try simp only [Act.put, List.setIfInBounds_toArray, List.set_cons_succ, List.set_cons_zero])
  refine wpE_take (i := 18) (oi := { dst := some 168, op := Go.Op.binOp Go.BinOp.eql 3 (Go.Operand.tmp 158) (Go.Operand.tmp 167) 3, type := 4, pos := "law.go:53", after := #[{ on := 8, ground := Go.Ground.data }, { on := 17, ground := Go.Ground.data }], guard := none }) (v := ?_) rfl (by kernel_rfl) (fun _ _ _ h => h) (Or.inl ⟨by rfl, fun W hW => ?_⟩) hS ?_
  rotate_left
  · obtain ⟨hw1, hw2, hw3, hw4, hw5, hw6, hw7, hw8, hw9⟩ := hW; go_simp; (try go_bits); (try rw [if_pos (by omega)]); (try with_reducible rfl)
  (try simp only [Act.put, List.setIfInBounds_toArray, List.set_cons_succ, List.set_cons_zero])
  refine wpE_last (oi := { dst := some 4, op := Go.Op.assign (Go.Operand.tmp 168), type := 4, pos := "law.go:53", after := #[{ on := 18, ground := Go.Ground.data }, { on := 17, ground := Go.Ground.chain }, { on := 0, ground := Go.Ground.phase }, { on := 1, ground := Go.Ground.phase }, { on := 2, ground := Go.Ground.phase }, { on := 3, ground := Go.Ground.phase }, { on := 4, ground := Go.Ground.phase }, { on := 5, ground := Go.Ground.phase }, { on := 6, ground := Go.Ground.phase }, { on := 7, ground := Go.Ground.phase }, { on := 8, ground := Go.Ground.phase }, { on := 9, ground := Go.Ground.phase }, { on := 10, ground := Go.Ground.phase }, { on := 11, ground := Go.Ground.phase }, { on := 12, ground := Go.Ground.phase }, { on := 13, ground := Go.Ground.phase }, { on := 14, ground := Go.Ground.phase }, { on := 15, ground := Go.Ground.phase }, { on := 16, ground := Go.Ground.phase }, { on := 17, ground := Go.Ground.phase }, { on := 18, ground := Go.Ground.phase }], guard := none }) rfl (by kernel_rfl) (by kernel_rfl) (by rfl) (fun K hK => ?_)
  go_simp; (try go_bits); refine hK _ _ ?_; clear hK K
  clear hS
  have HL := Lib.hid (show (if remOk xd xv then ms ++ [(⟨xd, xv, xg, xq⟩ : To4)] else ms).length ≤ ms.length + 1 by split <;> simp)
  go_wp2
  go_ret
  exact ⟨rfl, own3, _, _, _, _, H3.out.1, H3.out.2.1, H3.out.2.2, Hd.out.2.2.2.2.rem xd xv xg xq, HL.out⟩
end
end Go.Proofs.Ytlgcplekcmocbaa
