import Derived.Test.YtonhlgfgbdiapaaGreatEr5
import Derived.Test.YtonhlgfgbdiapaaGreatLaw4
import Derived.Test.YtonhlgfgbdiapaaGreatMemB
/- Both engines over plain memories: what each call does to them. -/
namespace Go.Proofs.YtonhlgfgbdiapaaGreat
set_option linter.unusedVariables false
set_option linter.unusedSimpArgs false
open Go.RowKit
set_option maxRecDepth 100000
structure FD (w0 : World) (own : Nat → Nat) (w : World) (e q p p2 bs n : Nat) (s t : Eg) (m m2 : Nat → Int) : Prop where
  f : FE w0 own w e p p2 bs n s m m2
  r : ErAt own 21 w q 0 (.pointer (some ⟨p2, 0, none⟩)) (.pointer none) t
  k : ErOk t
section
variable {w0 w w' : World} {own own' : Nat → Nat} {e q p p2 bs n : Nat} {s t s' t' : Eg} {m m' m2 m2' : Nat → Int}
theorem FD.upd (h : FD w0 own w e q p p2 bs n s t m m2) : Upd (fun _ => False) w0 w := h.f.upd
theorem FD.step {C : Nat → Prop} (h : FD w0 own w e q p p2 bs n s t m m2) (hS : Step C own w own' w') (hC : ∀ x, C x → x = 9) : FD w0 own' w' e q p p2 bs n s t m m2 :=
  ⟨h.f.step hS (fun x => by have := hC _ x; omega) (fun x => by have := hC _ x; omega) (fun x => by have := hC _ x; omega) (fun x => by have := hC _ x; omega), h.r.step hS (fun x => by have := hC _ x; omega), h.k⟩
theorem FD.none_ (h : FD w0 own w e q p p2 bs n s t m m2) (hS : Step (fun _ => False) own w own' w') : FD w0 own' w' e q p p2 bs n s t m m2 := h.step hS (fun _ h => h.elim)
theorem FD.alloc (h : FD w0 own w e q p p2 bs n s t m m2) (blk : Obj) (d : Nat) : FD w0 (ext own w d) (w.alloc blk) e q p p2 bs n s t m m2 := h.none_ ⟨(Upd.refl _ _).alloc _, fun b hb => ext_old _ _ _ hb⟩
theorem FD.drew (h : FD w0 own w e q p p2 bs n s t m m2) : FD w0 own w.drew e q p p2 bs n s t m m2 := h.none_ ((Step.refl _ _ _).drew)
theorem FD.drewN (h : FD w0 own w e q p p2 bs n s t m m2) (k : Nat) : FD w0 own (w.drewN k) e q p p2 bs n s t m m2 := h.none_ ((Step.refl _ _ _).drewN k)
theorem FD.reg4 (h : FD w0 own w e q p p2 bs n s t m m2) : w.cell? ⟨q, 7, none⟩ = some (.int .u64 (t.st : Int)) := h.r.cells.2.2.2.2.2.2.1
theorem FD.lt (h : FD w0 own w e q p p2 bs n s t m m2) : q < w.heap.size := h.r.1.lt
theorem FD.busy (h : FD w0 own w e q p p2 bs n s t m m2) : Calls Tryz.prog 13 #[.pointer (some ⟨e, 0, none⟩)] w fun x w' => x = .returned (.bool (decide (s.st = 1))) ∧ w = w' := h.f.busy
theorem FD.write (h : FD w0 own w e q p p2 bs n s t m m2) (off : Nat) (hoff : off < 18446744073709551616) (size : Int) (hs : i64B size) (v : Nat) (hv : v < 18446744073709551616) :
    Calls Tryz.prog 11 #[.pointer (some ⟨e, 0, none⟩), .int .u64 (off : Int), .int .i64 size, .int .u64 (v : Int)] w fun x w' => x = .returned (.bool (fitsE off size)) ∧ ∃ own', Step (fun x => x ≠ 0 ∧ x ≠ 9) own w own' w' ∧ FD w0 own' w' e q p p2 bs n (writeE s off size v) t m m2 := by
  refine (h.f.write off hoff size hs.1 hs.2 v hv).mono ?_
  rintro x w' ⟨rfl, own', hS, hF⟩
  exact ⟨rfl, own', hS.mono (by rintro x rfl; decide), hF, h.r.step hS (by decide), h.k⟩
theorem FD.writeD (h : FD w0 own w e q p p2 bs n s t m m2) (off : Nat) (hoff : off < 18446744073709551616) (size : Int) (hs : i64B size) (v : Nat) (hv : v < 18446744073709551616) (hsim : SimE (writeE s' off size v) (writeD t off size v)) (hok : EgOk (writeE s' off size v)) :
    Calls Tryz.prog 48 #[.pointer (some ⟨q, 0, none⟩), .int .u64 (off : Int), .int .i64 size, .int .u64 (v : Int)] w fun x w' => x = .returned (.bool (fitsE off size)) ∧ ∃ own', Step (fun x => x ≠ 0 ∧ x ≠ 9) own w own' w' ∧ FD w0 own' w' e q p p2 bs n s (writeD t off size v) m m2 := by
  refine (eref_Write h.r h.k off hoff size hs.1 hs.2 v hv).mono ?_
  rintro x w' ⟨rfl, hS, hE⟩
  exact ⟨rfl, own, hS.mono (by rintro x rfl; decide), ⟨h.f.st.trans (hS.mono (fun x hx e => by rw [hx] at e; cases e)), h.f.mm.step hS (by decide), h.f.mr.step hS (by decide), h.f.eg.step hS (by decide), h.f.ok⟩, hE, hsim.ok hok (writeD_cp h.k.cp off size v)⟩
theorem FD.read (h : FD w0 own w e q p p2 bs n s t m m2) (off : Nat) (hoff : off < 18446744073709551616) (size : Int) (hs : i64B size) :
    Calls Tryz.prog 12 #[.pointer (some ⟨e, 0, none⟩), .int .u64 (off : Int), .int .i64 size] w fun x w' => x = .returned (.tuple #[.int .u64 (readE s off size : Int), .bool (fitsE off size)]) ∧ ∃ own', Step (fun x => x ≠ 0 ∧ x ≠ 9) own w own' w' ∧ FD w0 own' w' e q p p2 bs n s t m m2 := by
  refine (h.f.read off hoff size hs.1 hs.2).mono ?_
  rintro x w' ⟨rfl, own', hS, hF⟩
  exact ⟨rfl, own', hS.mono (by rintro x rfl; decide), hF, h.r.step hS (by decide), h.k⟩
theorem FD.readD (h : FD w0 own w e q p p2 bs n s t m m2) (off : Nat) (hoff : off < 18446744073709551616) (size : Int) (hs : i64B size) :
    Calls Tryz.prog 49 #[.pointer (some ⟨q, 0, none⟩), .int .u64 (off : Int), .int .i64 size] w fun x w' => x = .returned (.tuple #[.int .u64 (readE t off size : Int), .bool (fitsE off size)]) ∧ w = w' := eref_Read h.r h.k off hoff size hs.1 hs.2
theorem FD.reset (h : FD w0 own w e q p p2 bs n s t m m2) :
    Calls Tryz.prog 51 #[.pointer (some ⟨e, 0, none⟩)] w fun x w' => x = .returned (.tuple #[]) ∧ ∃ own', Step (fun x => x ≠ 0 ∧ x ≠ 9) own w own' w' ∧ FD w0 own' w' e q p p2 bs n eg0 t m m2 := by
  refine (eng_Reset h.f.eg).mono ?_
  rintro x w' ⟨rfl, own', hS, hE⟩
  exact ⟨rfl, own', hS.mono (by rintro x rfl; decide), ⟨h.f.st.trans (hS.mono (fun x hx e => by rw [hx] at e; cases e)), h.f.mm.step hS (by decide), h.f.mr.step hS (by decide), hE, EgOk.init⟩, h.r.step hS (by decide), h.k⟩
theorem FD.resetD (h : FD w0 own w e q p p2 bs n s t m m2) :
    Calls Tryz.prog 52 #[.pointer (some ⟨q, 0, none⟩)] w fun x w' => x = .returned (.tuple #[]) ∧ ∃ own', Step (fun x => x ≠ 0 ∧ x ≠ 9) own w own' w' ∧ FD w0 own' w' e q p p2 bs n s eg0 m m2 := by
  refine (eref_Reset h.r).mono ?_
  rintro x w' ⟨rfl, hS, hE⟩
  exact ⟨rfl, own, hS.mono (by rintro x rfl; decide), ⟨h.f.st.trans (hS.mono (fun x hx e => by rw [hx] at e; cases e)), h.f.mm.step hS (by decide), h.f.mr.step hS (by decide), h.f.eg.step hS (by decide), h.f.ok⟩, hE, ErOk.init⟩
theorem FD.stepE (h : FD w0 own w e q p p2 bs n s t m m2) :
    Calls Tryz.prog 17 #[.pointer (some ⟨e, 0, none⟩)] w fun x w' => x = .returned (.tuple #[.agg #[.int .i64 (stepR bs n s).1, .int .i64 (stepR bs n s).2.1], .bool (stepR bs n s).2.2]) ∧ ∃ own', Step (fun x => x ≠ 0 ∧ x ≠ 9) own w own' w' ∧ FD w0 own' w' e q p p2 bs n (stepS bs n s) t (stepM bs n s m) m2 := by
  refine h.f.stepE.mono ?_
  rintro x w' ⟨rfl, own', hS, hF⟩
  exact ⟨rfl, own', hS.mono (fun x hx => by omega), hF, h.r.step hS (by decide), h.k⟩
theorem FD.stepD (h : FD w0 own w e q p p2 bs n s t m m2) (hsim : SimE (stepS bs n s') (stepS bs n t)) (hok : EgOk (stepS bs n s')) (hcp : (stepS bs n t).cp < 18446744073709551616) :
    Calls Tryz.prog 50 #[.pointer (some ⟨q, 0, none⟩)] w fun x w' => x = .returned (.tuple #[.agg #[.int .i64 (stepR bs n t).1, .int .i64 (stepR bs n t).2.1], .bool (stepR bs n t).2.2]) ∧ ∃ own', Step (fun x => x ≠ 0 ∧ x ≠ 9) own w own' w' ∧ FD w0 own' w' e q p p2 bs n s (stepS bs n t) m (stepM bs n t m2) := by
  refine (eref_StepF h.r h.k h.f.mr (by decide)).mono ?_
  rintro x w' ⟨rfl, own', hS, hE, hM⟩
  exact ⟨rfl, own', hS.mono (fun x hx => by omega), ⟨h.f.st.trans (hS.mono (fun x hx e => by omega)), h.f.mm.step hS (by decide), hM, h.f.eg.step hS (by decide), h.f.ok⟩, hE, hsim.ok hok hcp⟩
theorem goF_sim {s t : Eg} (h : SimE s t) (hs : s.st = 1) (bs n : Nat) : goF bs n s = goF bs n t := by unfold goF; rw [h.rg, h.cp hs]
theorem SimE.stepF {s t : Eg} (h : SimE s t) (bs n : Nat) : SimE (stepS bs n s) (stepS bs n t) := by
  unfold stepS
  by_cases hs : s.st = 1
  · rw [if_pos hs, if_pos (show t.st = 1 by rw [← h.st]; exact hs), goF_sim h hs]
    have hc := h.cp hs
    split
    · rw [hc, h.rg]
      split
      · exact ⟨rfl, h.st, fun _ => rfl⟩
      · exact ⟨rfl, rfl, fun _ => rfl⟩
    · exact ⟨h.rg, rfl, fun h => by cases h⟩
  · rw [if_neg hs, if_neg (show ¬ t.st = 1 by rw [← h.st]; exact hs)]; exact h
theorem SimE.stepFR {s t : Eg} (h : SimE s t) (bs n : Nat) : stepR bs n s = stepR bs n t := by
  unfold stepR msgE
  rw [(h.stepF bs n).st, h.st, h.rg]
theorem SimE.stepFM {s t : Eg} (h : SimE s t) (bs n : Nat) (m : Nat → Int) : stepM bs n s m = stepM bs n t m := by
  unfold stepM
  by_cases hs : s.st = 1
  · rw [goF_sim h hs, h.cp hs, h.rg, h.st]
  · rw [if_neg (fun e => hs e.1), if_neg (fun e => hs (h.st.trans e.1))]
theorem stepS_cp {t : Eg} (h : ErOk t) (bs n : Nat) : (stepS bs n t).cp < 18446744073709551616 := by
  unfold stepS
  split
  · rename_i hs
    have := h.run hs
    split
    · split <;> (show t.cp + 8 < _; omega)
    · exact h.cp
  · exact h.cp
end
end Go.Proofs.YtonhlgfgbdiapaaGreat
