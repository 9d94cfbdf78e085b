import Derived.Test.YtonhlgfgbdiapaaGreatEg3
/- The engine: Flat; a flat way. -/
namespace Go.Proofs.YtonhlgfgbdiapaaGreat
set_option linter.unusedVariables false
set_option linter.unusedSimpArgs false
open Go.RowKit Go.Maps
set_option maxRecDepth 100000
section
def wayF (mp : Nat) : Value := .iface 145 (.agg #[.pointer (some ⟨mp, 0, none⟩)])
theorem eng_Flat (own : Nat → Nat) (c mp : Nat) (w : World) : Calls Tryz.prog 21 #[.pointer (some ⟨mp, 0, none⟩)] w fun x w' => ∃ e own', x = .returned (.pointer (some ⟨e, 0, none⟩)) ∧ Step (fun _ => False) own w own' w' ∧ EngAt own' c w' e mp (wayF mp) eg0 := by
  have hmm := @run_makeMap Tryz.prog
  have hS1 : Step (fun _ => False) own w (ext own w c) (w.alloc (.map #[] 0)) := ⟨(Upd.refl _ _).alloc _, fun b hb => ext_old _ _ _ hb⟩
  have hS2 : Step (fun _ => False) (ext own w c) (w.alloc (.map #[] 0)) (ext (ext own w c) (w.alloc (.map #[] 0)) c) ((w.alloc (.map #[] 0)).alloc (.cells (egC mp (wayF mp) w.heap.size 0 0 0 (.map none)) 123)) := ⟨(Upd.refl _ _).alloc _, fun b hb => ext_old _ _ _ hb⟩
  have hM := MapB.made w Tryz.prog 23 encU
  have hR : RegAt (ext own w c) c (w.alloc (.map #[] 0)) w.heap.size eg0.rg := ⟨ext_new _ _ _ (Nat.le_refl _), [], hM, fun k => rfl⟩
  have hE : EngAt (ext (ext own w c) (w.alloc (.map #[] 0)) c) c ((w.alloc (.map #[] 0)).alloc (.cells (egC mp (wayF mp) w.heap.size 0 0 0 (.map none)) 123)) (w.alloc (.map #[] 0)).heap.size mp (wayF mp) eg0 :=
    ⟨w.heap.size, 0, .map none, Blk.new _ _ _, ext_new _ _ _ (Nat.le_refl _), hR.step hS2 (fun h => h), .inl ⟨rfl, rfl⟩⟩
  have hSS := hS1.trans hS2
  rw [World.size_alloc] at hE
  have HF := Lib.hid (And.intro hSS hE)
  clear hS1 hS2 hM hR hE hSS
  go_enter Tryz.func21, Tryz.ntmps21
  go_wp2
  go_ret
  exact ⟨_, _, rfl, HF.out⟩
/-- a flat way: access, message -/
theorem flat_access {own : Nat → Nat} {c p base n : Nat} {m : Nat → Int} {w : World} (h : MemAt ramK own c w p base n m) (d : Nat) (a : Nat) (ha : a < 18446744073709551616) (wr : Bool) :
    Calls Tryz.prog 170 #[.agg #[.pointer (some ⟨p, 0, none⟩)], .int .u64 (a : Int), .bool wr] w fun x w' => x = .returned (.tuple #[.int .u64 (a : Int), .bool (hasR base n a 8)]) ∧ Step (fun _ => False) own w (ext own w d) w' := by
  have hst : Step (fun _ => False) own w (ext own w d) (w.alloc (.cells #[.pointer (some ⟨p, 0, none⟩)] 145)) := ⟨(Upd.refl _ _).alloc _, fun b hb => ext_old _ _ _ hb⟩
  have hh := ram_hasC (h.step hst (fun h => h)) (a : Int) 8 (by omega) (by omega) (by decide) (by decide)
  have HH := Lib.hid hh
  have HS := Lib.hid hst
  clear hh hst h
  go_enter Tryz.func170, Tryz.ntmps170
  go_wp2_with fail
  ((with_reducible refine HH.out.mono ?_); rintro x wz ⟨rfl, q, rfl⟩)
  have HF := Lib.hid (HS.out.drewN q)
  clear HH HS
  go_wp2
  go_ret2
  exact ⟨rfl, HF.out⟩
theorem flat_message (own : Nat → Nat) (c p d : Nat) (a k : Nat) (ha : a < 18446744073709551616) (hk : k < 18446744073709551616) (w : World) :
    Calls Tryz.prog 171 #[.agg #[.pointer (some ⟨p, 0, none⟩)], .int .u64 (a : Int), .int .u64 (k : Int)] w fun x w' => x = .returned (.tuple #[.agg #[.int .i64 (msgF a k).1, .int .i64 (msgF a k).2.1], .bool (msgF a k).2.2]) ∧ ∃ own', Step (fun _ => False) own w own' w' := by
  have hS1 : Step (fun _ => False) own w (ext own w d) (w.alloc (.cells #[.pointer (some ⟨p, 0, none⟩)] 145)) := ⟨(Upd.refl _ _).alloc _, fun b hb => ext_old _ _ _ hb⟩
  have hS2 : Step (fun _ => False) (ext own w d) (w.alloc (.cells #[.pointer (some ⟨p, 0, none⟩)] 145)) (ext (ext own w d) (w.alloc (.cells #[.pointer (some ⟨p, 0, none⟩)] 145)) d) ((w.alloc (.cells #[.pointer (some ⟨p, 0, none⟩)] 145)).alloc (.cells #[.int .i64 0, .int .i64 0] 47)) := ⟨(Upd.refl _ _).alloc _, fun b hb => ext_old _ _ _ hb⟩
  have hB := Blk.new (w.alloc (.cells #[.pointer (some ⟨p, 0, none⟩)] 145)) 47 #[.int .i64 0, .int .i64 0]
  rw [World.size_alloc] at hB
  have hSS := hS1.trans hS2
  obtain ⟨own2, ho2⟩ : ∃ own2, ext (ext own w d) (w.alloc (.cells #[.pointer (some ⟨p, 0, none⟩)] 145)) d = own2 := ⟨_, rfl⟩
  rw [ho2] at hSS
  have x0 := hB.cell 0
  have x1 := hB.cell 1
  simp only [List.getElem?_toArray, List.getElem?_cons_zero, List.getElem?_cons_succ] at x0 x1
  have f0 := hB.frozen 0
  have f1 := hB.frozen 1
  have hlr := hB.lt
  have hxl : w.heap.size ≤ w.heap.size + 1 := by omega
  have HB := Lib.hid (And.intro hSS hB)
  have hUx : ∀ (x y : Value), Step (fun _ => False) own w (ext (ext own w d) (w.alloc (.cells #[.pointer (some ⟨p, 0, none⟩)] 145)) d) ((w.alloc (.cells #[.pointer (some ⟨p, 0, none⟩)] 145)).alloc (.cells #[x, y] 47)) ∧ Blk ((w.alloc (.cells #[.pointer (some ⟨p, 0, none⟩)] 145)).alloc (.cells #[x, y] 47)) (w.heap.size + 1) 47 #[x, y] := fun x y =>
    ⟨hS1.trans ⟨(Upd.refl _ _).alloc _, fun b hb => ext_old _ _ _ hb⟩, by have := Blk.new (w.alloc (.cells #[.pointer (some ⟨p, 0, none⟩)] 145)) 47 #[x, y]; rwa [World.size_alloc] at this⟩
  have HX := Lib.hid hUx
  clear hS1 hS2 hB hSS ho2 hUx
  by_cases h1 : a = 4276092928
  · have k1 : ((a : Int) != 4276092928) = false := by rw [h1]; rfl
    by_cases h2 : k ≤ 15
    · have k2 : decide ((15 : Int) < (k : Int)) = false := by simp; omega
      rw [show msgF a k = (1, 16 + (k : Int), true) from if_pos ⟨h1, h2⟩]
      have hk63 : (k : Int) ≤ 15 := by omega
      clear h1 h2
      go_enter Tryz.func171, Tryz.ntmps171
      go_wp2
      refine bodyPost_ret (results_cell_tmp_row rfl _ _ (w.heap.size + 1) 47 #[.int .i64 1, .int .i64 (16 + (k : Int))] _ rfl (HX.out _ _).2 Tryz.underlying47 rfl (by kernel_rfl)) rfl ?_
      exact ⟨rfl, _, (HX.out _ _).1⟩
    · have k2 : decide ((15 : Int) < (k : Int)) = true := by simp; omega
      rw [show msgF a k = (0, 0, false) from if_neg (by omega)]
      clear h1 h2
      go_enter Tryz.func171, Tryz.ntmps171
      go_wp2
      refine bodyPost_ret (results_cell_tmp_row rfl _ _ (w.heap.size + 1) 47 #[.int .i64 0, .int .i64 0] _ rfl HB.out.2 Tryz.underlying47 rfl (by kernel_rfl)) rfl ?_
      exact ⟨rfl, own2, HB.out.1⟩
  · have k1 : ((a : Int) != 4276092928) = true := by simp; omega
    rw [show msgF a k = (0, 0, false) from if_neg (by omega)]
    clear h1
    go_enter Tryz.func171, Tryz.ntmps171
    go_wp2
    refine bodyPost_ret (results_cell_tmp_row rfl _ _ (w.heap.size + 1) 47 #[.int .i64 0, .int .i64 0] _ rfl HB.out.2 Tryz.underlying47 rfl (by kernel_rfl)) rfl ?_
    exact ⟨rfl, own2, HB.out.1⟩
end
end Go.Proofs.YtonhlgfgbdiapaaGreat
