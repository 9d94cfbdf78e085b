import Derived.Test.YtonhlgfgbdiapaaGreatIo3
/- The IOMMU: Message, Next. -/
namespace Go.Proofs.YtonhlgfgbdiapaaGreat
set_option linter.unusedVariables false
set_option linter.unusedSimpArgs false
open Go.RowKit
set_option maxRecDepth 100000

section
variable {own : Nat → Nat} {c cm p rp tp n : Nat} {w : World} {s : Us} {m : Nat → Int}
set_option maxHeartbeats 1500000 in
theorem io_Msg_good (hU : UsAt own c w p rp tp s) (hM : MemAt ramK own cm w rp 0 n m) (d k : Nat) (hd : d < 8) (hk : k < 32) (hg : s.mg d k ≠ 0) :
    Calls Tryz.prog 78 #[.pointer (some ⟨p, 0, none⟩), .int .i64 (d : Int), .int .u64 4276092928, .int .u64 (k : Int)] w fun e w' => e = .returned (.tuple #[.agg #[.int .i64 (s.mg d k), .int .i64 (s.mi d k)], .bool true]) ∧
      ∃ own', Step (fun _ => False) own w own' w' ∧ UsAt own' c w' p rp tp s ∧ MemAt ramK own' cm w' rp 0 n m := by
  have HT := Lib.hid (fun w => io_there d w)
  have hde : decide (0 ≤ (d : Int) ∧ (d : Int) < 8) = true := by simp; omega
  have hke : decide ((k : Int) < 32) = true := by simp; omega
  obtain ⟨hc, hc1⟩ := hU.msg d k hd hk
  have hlt := hU.lt
  have H0 := Lib.hid (And.intro hU hM)
  generalize s.mg d k = g at *
  generalize s.mi d k = i at *
  have hg0 : (g == 0) = false := by simp [hg]
  clear hU hM hg
  go_enter Tryz.func78, Tryz.ntmps78
  go_wp2_with fail
  ((with_reducible refine (HT.out _).mono ?_); rintro e wz ⟨rfl, rfl⟩)
  rw [hde]
  clear HT
  go_wp2
  refine bodyPost_ret (results_cell_tmp_row rfl _ _ w.heap.size 47 #[.int .i64 g, .int .i64 i] _ rfl ((Blk.new w _ _).alloc _) Tryz.underlying47 rfl (by kernel_rfl)) rfl ?_
  have hst := (step_allocS own w (.cells #[.int .i64 g, .int .i64 i] 47)).trans (step_allocS own _ (.cells #[.int .i64 g, .int .i64 i] 47))
  exact ⟨rfl, own, hst, H0.out.1.step hst (fun h => h), H0.out.2.step hst (fun h => h)⟩
set_option maxHeartbeats 1500000 in
theorem io_Msg_bad1 (hU : UsAt own c w p rp tp s) (hM : MemAt ramK own cm w rp 0 n m) (hcm : c ≠ cm) (hok : UsOk n s) (d a k : Nat) (hd : d < 8) (ha : a < 18446744073709551616) (hb : a ≠ 4276092928 ∨ 32 ≤ k) :
    Calls Tryz.prog 78 #[.pointer (some ⟨p, 0, none⟩), .int .i64 (d : Int), .int .u64 (a : Int), .int .u64 (k : Int)] w fun e w' => e = .returned (.tuple #[.agg #[.int .i64 0, .int .i64 0], .bool false]) ∧
      ∃ own', Step (fun x => x = c ∨ x = cm) own w own' w' ∧ UsAt own' c w' p rp tp (recS s) ∧ MemAt ramK own' cm w' rp 0 n (recM s m d 5 a) := by
  have HT := Lib.hid (fun w => io_there d w)
  have hde : decide (0 ≤ (d : Int) ∧ (d : Int) < 8) = true := by simp; omega
  have hst : Step (fun _ => False) own w (ext own w (c + cm + 1)) (w.alloc (.cells #[.int .i64 0, .int .i64 0] 47)) := ⟨(Upd.refl _ _).alloc _, fun b hb => ext_old _ _ _ hb⟩
  have hB := Blk.new w 47 #[.int .i64 0, .int .i64 0]
  have hR := io_blocked (hU.step hst (fun h => h)) (hM.step hst (fun h => h)) hcm hok d 5 a hd (by omega) ha
  rw [show ((5 : Nat) : Int) = 5 from rfl] at hR
  have HR := Lib.hid hR
  have HS := Lib.hid (And.intro hst (And.intro hB (show ext own w (c + cm + 1) w.heap.size = c + cm + 1 from ext_new _ _ _ (Nat.le_refl _))))
  clear hU hM hok hst hB hR
  have fin : ∀ (w1 : World) (own1 : Nat → Nat), Step (fun x => x = c ∨ x = cm) (ext own w (c + cm + 1)) (w.alloc (.cells #[.int .i64 0, .int .i64 0] 47)) own1 w1 → UsAt own1 c w1 p rp tp (recS s) → MemAt ramK own1 cm w1 rp 0 n (recM s m d 5 a) →
      Blk w1 w.heap.size 47 #[.int .i64 0, .int .i64 0] ∧ Hid (∀ u v, ∃ own', Step (fun x => x = c ∨ x = cm) own w own' ((w1.setCell ⟨w.heap.size, 0, none⟩ u).setCell ⟨w.heap.size, 1, none⟩ v) ∧ UsAt own' c ((w1.setCell ⟨w.heap.size, 0, none⟩ u).setCell ⟨w.heap.size, 1, none⟩ v) p rp tp (recS s) ∧ MemAt ramK own' cm ((w1.setCell ⟨w.heap.size, 0, none⟩ u).setCell ⟨w.heap.size, 1, none⟩ v) rp 0 n (recM s m d 5 a)) := by
    intro w1 own1 hS1 hU1 hM1
    obtain ⟨k1, k2⟩ := hS1.blk HS.out.2.1 HS.out.2.2 (by omega)
    refine ⟨k1, fun u v => ⟨own1, ?_, ?_, ?_⟩⟩
    · have hU' : Upd (· = w.heap.size) w1 ((w1.setCell ⟨w.heap.size, 0, none⟩ u).setCell ⟨w.heap.size, 1, none⟩ v) := ((Upd.refl (· = w.heap.size) w1).setCell (p := ⟨w.heap.size, 0, none⟩) (.inl rfl) _).setCell (p := ⟨w.heap.size, 1, none⟩) (.inl rfl) _
      have h2 := (HS.out.1.mono (C' := fun x => x = c ∨ x = cm) (fun _ h => h.elim)).trans hS1
      exact ⟨h2.upd.trans' hU' (fun i hi e => by omega), h2.old⟩
    · exact hU1.step (C := (· = c + cm + 1)) ⟨((Upd.refl _ _).setCell (.inl k2) _).setCell (.inl k2) _, fun _ _ => rfl⟩ (by omega)
    · exact hM1.step (C := (· = c + cm + 1)) ⟨((Upd.refl _ _).setCell (.inl k2) _).setCell (.inl k2) _, fun _ _ => rfl⟩ (by omega)
  have FIN := Lib.hid fin
  clear fin
  generalize hxr : w.heap.size = xr at *
  by_cases h1 : a = 4276092928
  · subst h1
    have hk2 : decide ((k : Int) < 32) = false := by simp; omega
    clear hb
    rw [show ((4276092928 : Nat) : Int) = 4276092928 from rfl] at HR ⊢
    go_enter Tryz.func78, Tryz.ntmps78
    go_wp2_with fail
    ((with_reducible refine (HT.out _).mono ?_); rintro e wz ⟨rfl, rfl⟩)
    rw [hde]
    clear HT
    go_wp2_with fail
    ((with_reducible refine HR.out.mono ?_); rintro e w1 ⟨rfl, own1, hS1, hU1, hM1⟩)
    obtain ⟨hb1, HF⟩ := FIN.out _ _ hS1 hU1 hM1
    have z0 := hb1.frozen 0
    have z1 := hb1.frozen 1
    have x0 := hb1.cell 0
    have x1 := hb1.cell 1
    have hl1 := hb1.lt
    have HB := Lib.hid hb1
    clear hS1 hU1 hM1 HR FIN HS hb1
    go_wp2
    refine bodyPost_ret (results_cell_tmp_row rfl _ _ xr 47 #[.int .i64 0, .int .i64 0] _ rfl ((HB.out.set_ 0 (.int .i64 0)).set_ 1 (.int .i64 0)) Tryz.underlying47 rfl (by kernel_rfl)) rfl ?_
    exact ⟨rfl, HF.out _ _⟩
  · have ha2 : ((a : Int) == 4276092928) = false := by simp; omega
    clear hb
    go_enter Tryz.func78, Tryz.ntmps78
    go_wp2_with fail
    ((with_reducible refine (HT.out _).mono ?_); rintro e wz ⟨rfl, rfl⟩)
    rw [hde]
    clear HT
    go_wp2_with fail
    ((with_reducible refine HR.out.mono ?_); rintro e w1 ⟨rfl, own1, hS1, hU1, hM1⟩)
    obtain ⟨hb1, HF⟩ := FIN.out _ _ hS1 hU1 hM1
    have z0 := hb1.frozen 0
    have z1 := hb1.frozen 1
    have x0 := hb1.cell 0
    have x1 := hb1.cell 1
    have hl1 := hb1.lt
    have HB := Lib.hid hb1
    clear hS1 hU1 hM1 HR FIN HS hb1
    go_wp2
    refine bodyPost_ret (results_cell_tmp_row rfl _ _ xr 47 #[.int .i64 0, .int .i64 0] _ rfl ((HB.out.set_ 0 (.int .i64 0)).set_ 1 (.int .i64 0)) Tryz.underlying47 rfl (by kernel_rfl)) rfl ?_
    exact ⟨rfl, HF.out _ _⟩
set_option maxHeartbeats 1500000 in
theorem io_Msg_bad2 (hU : UsAt own c w p rp tp s) (hM : MemAt ramK own cm w rp 0 n m) (hcm : c ≠ cm) (hok : UsOk n s) (d k : Nat) (hd : d < 8) (hk : k < 32) (hg : s.mg d k = 0) :
    Calls Tryz.prog 78 #[.pointer (some ⟨p, 0, none⟩), .int .i64 (d : Int), .int .u64 4276092928, .int .u64 (k : Int)] w fun e w' => e = .returned (.tuple #[.agg #[.int .i64 0, .int .i64 0], .bool false]) ∧
      ∃ own', Step (fun x => x = c ∨ x = cm) own w own' w' ∧ UsAt own' c w' p rp tp (recS s) ∧ MemAt ramK own' cm w' rp 0 n (recM s m d 5 4276092928) := by
  have HT := Lib.hid (fun w => io_there d w)
  have hde : decide (0 ≤ (d : Int) ∧ (d : Int) < 8) = true := by simp; omega
  obtain ⟨hc, hc1⟩ := hU.msg d k hd hk
  have hlt := hU.lt
  rw [hg] at hc
  generalize s.mi d k = i at *
  have hst : Step (fun _ => False) own w (ext own w (c + cm + 1)) ((w.alloc (.cells #[.int .i64 0, .int .i64 0] 47)).alloc (.cells #[.int .i64 0, .int .i64 i] 47)) := (show Step (fun _ => False) own w (ext own w (c + cm + 1)) (w.alloc (.cells #[.int .i64 0, .int .i64 0] 47)) from ⟨(Upd.refl _ _).alloc _, fun b hb => ext_old _ _ _ hb⟩).trans (step_allocS _ _ _)
  have hB := (Blk.new w 47 #[.int .i64 0, .int .i64 0]).alloc (.cells #[.int .i64 0, .int .i64 i] 47)
  have hR := io_blocked (hU.step hst (fun h => h)) (hM.step hst (fun h => h)) hcm hok d 5 4276092928 hd (by omega) (by decide)
  rw [show ((5 : Nat) : Int) = 5 from rfl, show ((4276092928 : Nat) : Int) = 4276092928 from rfl] at hR
  have HR := Lib.hid hR
  have HS := Lib.hid (And.intro hst (And.intro hB (show ext own w (c + cm + 1) w.heap.size = c + cm + 1 from ext_new _ _ _ (Nat.le_refl _))))
  clear hU hM hok hst hB hR
  have fin : ∀ (w1 : World) (own1 : Nat → Nat), Step (fun x => x = c ∨ x = cm) (ext own w (c + cm + 1)) ((w.alloc (.cells #[.int .i64 0, .int .i64 0] 47)).alloc (.cells #[.int .i64 0, .int .i64 i] 47)) own1 w1 → UsAt own1 c w1 p rp tp (recS s) → MemAt ramK own1 cm w1 rp 0 n (recM s m d 5 4276092928) →
      Blk w1 w.heap.size 47 #[.int .i64 0, .int .i64 0] ∧ Hid (∀ u v, ∃ own', Step (fun x => x = c ∨ x = cm) own w own' ((w1.setCell ⟨w.heap.size, 0, none⟩ u).setCell ⟨w.heap.size, 1, none⟩ v) ∧ UsAt own' c ((w1.setCell ⟨w.heap.size, 0, none⟩ u).setCell ⟨w.heap.size, 1, none⟩ v) p rp tp (recS s) ∧ MemAt ramK own' cm ((w1.setCell ⟨w.heap.size, 0, none⟩ u).setCell ⟨w.heap.size, 1, none⟩ v) rp 0 n (recM s m d 5 4276092928)) := by
    intro w1 own1 hS1 hU1 hM1
    obtain ⟨k1, k2⟩ := hS1.blk HS.out.2.1 HS.out.2.2 (by omega)
    refine ⟨k1, fun u v => ⟨own1, ?_, ?_, ?_⟩⟩
    · have hU' : Upd (· = w.heap.size) w1 ((w1.setCell ⟨w.heap.size, 0, none⟩ u).setCell ⟨w.heap.size, 1, none⟩ v) := ((Upd.refl (· = w.heap.size) w1).setCell (p := ⟨w.heap.size, 0, none⟩) (.inl rfl) _).setCell (p := ⟨w.heap.size, 1, none⟩) (.inl rfl) _
      have h2 := (HS.out.1.mono (C' := fun x => x = c ∨ x = cm) (fun _ h => h.elim)).trans hS1
      exact ⟨h2.upd.trans' hU' (fun i hi e => by omega), h2.old⟩
    · exact hU1.step (C := (· = c + cm + 1)) ⟨((Upd.refl _ _).setCell (.inl k2) _).setCell (.inl k2) _, fun _ _ => rfl⟩ (by omega)
    · exact hM1.step (C := (· = c + cm + 1)) ⟨((Upd.refl _ _).setCell (.inl k2) _).setCell (.inl k2) _, fun _ _ => rfl⟩ (by omega)
  have FIN := Lib.hid fin
  clear fin
  generalize hxr : w.heap.size = xr at *
  have hke : decide ((k : Int) < 32) = true := by simp; omega
  go_enter Tryz.func78, Tryz.ntmps78
  go_wp2_with fail
  ((with_reducible refine (HT.out _).mono ?_); rintro e wz ⟨rfl, rfl⟩)
  rw [hde]
  clear HT
  go_wp2_with fail
  ((with_reducible refine HR.out.mono ?_); rintro e w1 ⟨rfl, own1, hS1, hU1, hM1⟩)
  obtain ⟨hb1, HF⟩ := FIN.out _ _ hS1 hU1 hM1
  have z0 := hb1.frozen 0
  have z1 := hb1.frozen 1
  have x0 := hb1.cell 0
  have x1 := hb1.cell 1
  have hl1 := hb1.lt
  have HB := Lib.hid hb1
  clear hS1 hU1 hM1 HR FIN HS hb1
  go_wp2
  refine bodyPost_ret (results_cell_tmp_row rfl _ _ xr 47 #[.int .i64 0, .int .i64 0] _ rfl ((HB.out.set_ 0 (.int .i64 0)).set_ 1 (.int .i64 0)) Tryz.underlying47 rfl (by kernel_rfl)) rfl ?_
  exact ⟨rfl, HF.out _ _⟩
/-- a message that goes nowhere -/
theorem io_Msg_bad (hU : UsAt own c w p rp tp s) (hM : MemAt ramK own cm w rp 0 n m) (hcm : c ≠ cm) (hok : UsOk n s) (d a k : Nat) (hd : d < 8) (ha : a < 18446744073709551616) (hb : a ≠ 4276092928 ∨ 32 ≤ k ∨ s.mg d k = 0) :
    Calls Tryz.prog 78 #[.pointer (some ⟨p, 0, none⟩), .int .i64 (d : Int), .int .u64 (a : Int), .int .u64 (k : Int)] w fun e w' => e = .returned (.tuple #[.agg #[.int .i64 0, .int .i64 0], .bool false]) ∧
      ∃ own', Step (fun x => x = c ∨ x = cm) own w own' w' ∧ UsAt own' c w' p rp tp (recS s) ∧ MemAt ramK own' cm w' rp 0 n (recM s m d 5 a) := by
  by_cases h1 : a ≠ 4276092928 ∨ 32 ≤ k
  · exact io_Msg_bad1 hU hM hcm hok d a k hd ha h1
  · obtain rfl : a = 4276092928 := by omega
    exact io_Msg_bad2 hU hM hcm hok d k hd (by omega) (by omega)
end
end Go.Proofs.YtonhlgfgbdiapaaGreat
