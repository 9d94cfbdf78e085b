import Derived.Test.YtonhlgfgbdiapaaGreatEg4
import Derived.Test.YtonhlgfgbdiapaaGreatEg6
import Derived.Test.YtonhlgfgbdiapaaGreatElP
import Derived.Test.YtonhlgfgbdiapaaGreatMemC
import Derived.Test.YtonhlgfgbdiapaaGreatMrR
/- An engine over a plain memory, and the document's memory beside it: what each call does to both. -/
namespace Go.Proofs.YtonhlgfgbdiapaaGreat
set_option linter.unusedVariables false
set_option linter.unusedSimpArgs false
open Go.RowKit
set_option maxRecDepth 100000

section
theorem flat_m1 (p : Nat) (w : World) : (method 334 145 (.agg #[.pointer (some ⟨p, 0, none⟩)]) "citadel/engine.access").run Tryz.prog w = .ok (170, .agg #[.pointer (some ⟨p, 0, none⟩)]) w := by kernel_rfl
theorem flat_m2 (p : Nat) (w : World) : (method 334 145 (.agg #[.pointer (some ⟨p, 0, none⟩)]) "citadel/engine.message").run Tryz.prog w = .ok (171, .agg #[.pointer (some ⟨p, 0, none⟩)]) w := by kernel_rfl
theorem flat_c1 (args : Array Value) (w : World) : (callFunc 170 args).run Tryz.prog w = .ok (.enter 170 args) w := by kernel_rfl
theorem flat_c2 (args : Array Value) (w : World) : (callFunc 171 args).run Tryz.prog w = .ok (.enter 171 args) w := by kernel_rfl
variable {own own' : Nat → Nat} {c cm e mp base n : Nat} {w w' : World} {s : Eg} {m : Nat → Int}
theorem rdR_bd (base n : Nat) {m : Nat → Int} (hm : ∀ x, 0 ≤ m x ∧ m x < 256) (a : Int) : 0 ≤ (rdR base n m a 8).1 ∧ (rdR base n m a 8).1 < 18446744073709551616 := by
  unfold rdR
  split
  · have h3 := num_lt hm (8 : Int).toNat (a - base).toNat
    have h2 : (256 : Int) ^ (8 : Int).toNat = 18446744073709551616 := by decide
    rw [h2] at h3
    exact ⟨num_nonneg hm _ _, h3⟩
  · decide
theorem which_mod (s : Eg) (o1 o2 : Bool) : whichE s o1 o2 % 10 = 4 ↔ (s.st = 1 ∧ (o1 && o2) = true) := by
  unfold whichE atE
  by_cases hs : s.st = 1
  · by_cases hn : (nextE s o1 o2).st = 1
    · cases o1 <;> cases o2 <;> simp [hs, hn]
    · by_cases h4 : s.rg 40 = 0 <;> cases o1 <;> cases o2 <;> simp [hs, hn, h4]
  · simp [hs]
/-- a step of an engine over a plain memory -/
theorem eng_StepF (h : EngAt own c w e mp (wayF mp) s) (hok : EgOk s) (hM : MemAt ramK own cm w mp base n m) (hc : c ≠ cm) :
    Calls Tryz.prog 17 #[.pointer (some ⟨e, 0, none⟩)] w fun x w' => x = .returned (.tuple #[.agg #[.int .i64 (stepR base n s).1, .int .i64 (stepR base n s).2.1], .bool (stepR base n s).2.2]) ∧
      ∃ own', Step (fun x => x = c ∨ x = cm) own w own' w' ∧ EngAt own' c w' e mp (wayF mp) (stepS base n s) ∧ MemAt ramK own' cm w' mp base n (stepM base n s m) := by
  obtain ⟨a1, ha1⟩ : ∃ a, (s.rg 0 + s.cp) % 18446744073709551616 = a := ⟨_, rfl⟩
  obtain ⟨a2, ha2⟩ : ∃ a, (s.rg 8 + s.cp) % 18446744073709551616 = a := ⟨_, rfl⟩
  have b1 : a1 < 18446744073709551616 := by omega
  have b2 : a2 < 18446744073709551616 := by omega
  obtain ⟨v0, v1⟩ := rdR_bd base n hM.bd (a1 : Int)
  obtain ⟨v, hv⟩ := Int.eq_ofNat_of_zero_le v0
  have hG : goF base n s = (hasR base n (a1 : Int) 8 && hasR base n (a2 : Int) 8) := by unfold goF; rw [ha1, ha2]
  have key := eng_StepG (c := c) (V := fun i own w => MemAt ramK own cm w mp base n (if i % 10 = 4 then wrR base n m (a2 : Int) 8 (v : Int) else m)) (C := (· = cm)) (o1 := hasR base n (a1 : Int) 8) (o2 := hasR base n (a2 : Int) 8) (f1 := a1) (f2 := a2) (v := v) (R := fun _ => msgF (s.rg 40) (s.rg 48)) (ac := 170) (ms := 171) h hok
    (fun hs => {
      m1 := flat_m1 mp, m2 := flat_m2 mp, c1 := flat_c1, c2 := flat_c2, hC := hc
      hV := fun i own w own' w' hm hS => hm.step hS (fun e => hc e.symm)
      b1 := b1, b2 := b2, bv := by omega
      A1 := fun own w hm => by
        rw [ha1]
        refine (flat_access hm cm a1 b1 false).mono ?_
        rintro x w' ⟨rfl, hS⟩
        exact ⟨rfl, _, hS.mono (fun _ h => h.elim), hm.step hS (fun h => h)⟩
      A2 := fun _ own w hm => by
        rw [ha2]
        refine (flat_access hm cm a2 b2 true).mono ?_
        rintro x w' ⟨rfl, hS⟩
        exact ⟨rfl, _, hS.mono (fun _ h => h.elim), hm.step hS (fun h => h)⟩
      rd := fun o1 o2 own w hm => by
        refine (ram_Read hm (a1 : Int) 8 (by omega) (by omega) (by decide) (by decide)).mono ?_
        rintro x w' ⟨rfl, k, rfl⟩
        exact ⟨_, by rw [← hv]; rfl, _, (Step.refl _ _ _).drewN k, hm.drewN k⟩
      wr := fun o1 o2 own w hm => by
        refine (ram_Write hm (a2 : Int) 8 (v : Int) (by omega) (by omega) (by decide) (by decide) (by omega) (by omega)).mono ?_
        rintro x w' ⟨rfl, own', hS, hm'⟩
        exact ⟨_, rfl, own', hS, hm'⟩
      ms := fun i hi own w hm => by
        refine (flat_message own cm mp cm (s.rg 40) (s.rg 48) (hok.rg _) (hok.rg _) w).mono ?_
        rintro x w' ⟨rfl, own', hS⟩
        refine ⟨rfl, own', hS.mono (fun _ h => h.elim), ?_⟩
        have := hm.step hS (fun h => h)
        rwa [show (i + 10) % 10 = i % 10 by omega] }) (fun i own w own' w' hm hS => hm.step hS (fun e => hc e.symm)) hM
  refine key.mono ?_
  rintro x w' ⟨rfl, own', hS, hE, hm⟩
  have hnx : nextE s (hasR base n (a1 : Int) 8) (hasR base n (a2 : Int) 8) = stepS base n s := by unfold nextE stepS; rw [hG]
  have hre : resE s (hasR base n (a1 : Int) 8) (hasR base n (a2 : Int) 8) (fun _ => msgF (s.rg 40) (s.rg 48)) = stepR base n s := by
    unfold resE stepR msgE
    rw [hnx]
    by_cases hs : s.st = 1
    · by_cases hx : (stepS base n s).st = 1 <;> simp [hs, hx]
    · simp [hs]
  have hme : (if whichE s (hasR base n (a1 : Int) 8) (hasR base n (a2 : Int) 8) % 10 = 4 then wrR base n m (a2 : Int) 8 (v : Int) else m) = stepM base n s m := by
    unfold stepM
    rw [hG, ha1, ha2, hv]
    by_cases hx : s.st = 1 ∧ (hasR base n (a1 : Int) 8 && hasR base n (a2 : Int) 8) = true
    · rw [if_pos ((which_mod _ _ _).2 hx), if_pos hx]
    · rw [if_neg (fun h => hx ((which_mod _ _ _).1 h)), if_neg hx]
  rw [hre]
  rw [hnx] at hE
  rw [hme] at hm
  exact ⟨rfl, own', hS, hE, hm⟩
end
/-- the engine e over the memory p (colours 3, 1), the document's memory p2 (2); whatever was there (colour 0) is as it was -/
structure FE (w0 : World) (own : Nat → Nat) (w : World) (e p p2 bs n : Nat) (s : Eg) (m m2 : Nat → Int) : Prop where
  st : Step (· ≠ 0) (fun _ => 0) w0 own w
  mm : MemAt ramK own 1 w p bs n m
  mr : MemAt refK own 2 w p2 bs n m2
  eg : EngAt own 3 w e p (wayF p) s
  ok : EgOk s
section
variable {w0 w w' : World} {own own' : Nat → Nat} {e p p2 bs n : Nat} {s s' : Eg} {m m' m2 m2' : Nat → Int}
theorem FE.upd (h : FE w0 own w e p p2 bs n s m m2) : Upd (fun _ => False) w0 w := h.st.upd.mono (fun i _ hx => absurd rfl hx)
theorem FE.cells (h : FE w0 own w e p p2 bs n s m m2) : e < w.heap.size := h.eg.cells.2.2.2.2.2.2
theorem FE.step {C : Nat → Prop} (h : FE w0 own w e p p2 bs n s m m2) (hS : Step C own w own' w') (h0 : ¬ C 0) (h1 : ¬ C 1) (h2 : ¬ C 2) (h3 : ¬ C 3) : FE w0 own' w' e p p2 bs n s m m2 :=
  ⟨h.st.trans (hS.mono (fun x hx e => h0 (e ▸ hx))), h.mm.step hS h1, h.mr.step hS h2, h.eg.step hS h3, h.ok⟩
theorem FE.none_ (h : FE w0 own w e p p2 bs n s m m2) (hS : Step (fun _ => False) own w own' w') : FE w0 own' w' e p p2 bs n s m m2 := h.step hS (fun x => x) (fun x => x) (fun x => x) (fun x => x)
theorem FE.alloc (h : FE w0 own w e p p2 bs n s m m2) (blk : Obj) (d : Nat) : FE w0 (ext own w d) (w.alloc blk) e p p2 bs n s m m2 := h.none_ ⟨(Upd.refl _ _).alloc _, fun b hb => ext_old _ _ _ hb⟩
theorem FE.drew (h : FE w0 own w e p p2 bs n s m m2) : FE w0 own w.drew e p p2 bs n s m m2 := h.none_ ((Step.refl _ _ _).drew)
theorem FE.drewN (h : FE w0 own w e p p2 bs n s m m2) (k : Nat) : FE w0 own (w.drewN k) e p p2 bs n s m m2 := h.none_ ((Step.refl _ _ _).drewN k)
theorem FE.busy (h : FE w0 own w e p p2 bs n s m m2) : Calls Tryz.prog 13 #[.pointer (some ⟨e, 0, none⟩)] w fun x w' => x = .returned (.bool (decide (s.st = 1))) ∧ w = w' := eng_Busy h.eg
theorem FE.write (h : FE w0 own w e p p2 bs n s m m2) (off : Nat) (hoff : off < 18446744073709551616) (size : Int) (hs0 : -9223372036854775808 ≤ size) (hs1 : size ≤ 9223372036854775807) (v : Nat) (hv : v < 18446744073709551616) :
    Calls Tryz.prog 11 #[.pointer (some ⟨e, 0, none⟩), .int .u64 (off : Int), .int .i64 size, .int .u64 (v : Int)] w fun x w' => x = .returned (.bool (fitsE off size)) ∧ ∃ own', Step (· = 3) own w own' w' ∧ FE w0 own' w' e p p2 bs n (writeE s off size v) m m2 := by
  refine (eng_Write h.eg h.ok off hoff size hs0 hs1 v hv).mono ?_
  rintro x w' ⟨rfl, hS, hE⟩
  exact ⟨rfl, own, hS, h.st.trans (hS.mono (fun x hx e => by rw [hx] at e; cases e)), h.mm.step hS (by decide), h.mr.step hS (by decide), hE, h.ok.write off size v hv⟩
theorem FE.read (h : FE w0 own w e p p2 bs n s m m2) (off : Nat) (hoff : off < 18446744073709551616) (size : Int) (hs0 : -9223372036854775808 ≤ size) (hs1 : size ≤ 9223372036854775807) :
    Calls Tryz.prog 12 #[.pointer (some ⟨e, 0, none⟩), .int .u64 (off : Int), .int .i64 size] w fun x w' => x = .returned (.tuple #[.int .u64 (readE s off size : Int), .bool (fitsE off size)]) ∧ ∃ own', Step (· = 3) own w own' w' ∧ FE w0 own' w' e p p2 bs n s m m2 := by
  refine (eng_Read h.eg h.ok off hoff size hs0 hs1).mono ?_
  rintro x w' ⟨rfl, own', hS, hE⟩
  exact ⟨rfl, own', hS, h.st.trans (hS.mono (fun x hx e => by rw [hx] at e; cases e)), h.mm.step hS (by decide), h.mr.step hS (by decide), hE, h.ok⟩
/-- with the numbers as the goal shows them -/
theorem FE.writeL (h : FE w0 own w e p p2 bs n s m m2) (off : Nat) (oI : Int) (hoI : oI = (off : Int)) (hoff : off < 18446744073709551616) (size : Int) (hs0 : -9223372036854775808 ≤ size) (hs1 : size ≤ 9223372036854775807) (v : Nat) (vI : Int) (hvI : vI = (v : Int)) (hv : v < 18446744073709551616) (fb : Bool) (hfb : fitsE off size = fb) :
    Calls Tryz.prog 11 #[.pointer (some ⟨e, 0, none⟩), .int .u64 oI, .int .i64 size, .int .u64 vI] w fun x w' => x = .returned (.bool fb) ∧ ∃ own', Step (· = 3) own w own' w' ∧ FE w0 own' w' e p p2 bs n (writeE s off size v) m m2 := by
  subst hoI hvI hfb; exact h.write off hoff size hs0 hs1 v hv
theorem FE.readL (h : FE w0 own w e p p2 bs n s m m2) (off : Nat) (oI : Int) (hoI : oI = (off : Int)) (hoff : off < 18446744073709551616) (size : Int) (hs0 : -9223372036854775808 ≤ size) (hs1 : size ≤ 9223372036854775807) (r : Nat) (rI : Int) (hr : readE s off size = r) (hrI : rI = (r : Int)) (fb : Bool) (hfb : fitsE off size = fb) :
    Calls Tryz.prog 12 #[.pointer (some ⟨e, 0, none⟩), .int .u64 oI, .int .i64 size] w fun x w' => x = .returned (.tuple #[.int .u64 rI, .bool fb]) ∧ ∃ own', Step (· = 3) own w own' w' ∧ FE w0 own' w' e p p2 bs n s m m2 := by
  subst hoI hrI hr hfb; exact h.read off hoff size hs0 hs1
theorem FE.stepE (h : FE w0 own w e p p2 bs n s m m2) :
    Calls Tryz.prog 17 #[.pointer (some ⟨e, 0, none⟩)] w fun x w' => x = .returned (.tuple #[.agg #[.int .i64 (stepR bs n s).1, .int .i64 (stepR bs n s).2.1], .bool (stepR bs n s).2.2]) ∧ ∃ own', Step (fun x => x = 1 ∨ x = 3) own w own' w' ∧ FE w0 own' w' e p p2 bs n (stepS bs n s) (stepM bs n s m) m2 := by
  refine (eng_StepF h.eg h.ok h.mm (by decide)).mono ?_
  rintro x w' ⟨rfl, own', hS, hE, hM⟩
  have hS := hS.mono (C' := fun x => x = 1 ∨ x = 3) (fun x hx => hx.elim .inr .inl)
  exact ⟨rfl, own', hS, h.st.trans (hS.mono (fun x hx e => by rw [e] at hx; rcases hx with h | h <;> cases h)), hM, h.mr.step hS (by decide), hE, h.ok.step bs n⟩
theorem FE.readR (h : FE w0 own w e p p2 bs n s m m2) (addr size : Int) (ha0 : 0 ≤ addr) (ha1 : addr < 18446744073709551616) (hs0 : -9223372036854775808 ≤ size) (hs1 : size ≤ 9223372036854775807) :
    Calls Tryz.prog 37 #[.pointer (some ⟨p, 0, none⟩), .int .u64 addr, .int .i64 size] w fun x w' => x = .returned (.tuple #[.int .u64 (rdR bs n m addr size).1, .bool (rdR bs n m addr size).2]) ∧ Step (fun _ => False) own w own w' := by
  refine (ram_Read h.mm addr size ha0 ha1 hs0 hs1).mono ?_
  rintro x w' ⟨rfl, k, rfl⟩
  exact ⟨rfl, (Step.refl _ _ _).drewN k⟩
theorem FE.writeW (h : FE w0 own w e p p2 bs n s m m2) (addr size v : Int) (ha0 : 0 ≤ addr) (ha1 : addr < 18446744073709551616) (hs0 : -9223372036854775808 ≤ size) (hs1 : size ≤ 9223372036854775807) (hv0 : 0 ≤ v) (hv1 : v < 18446744073709551616) :
    Calls Tryz.prog 71 #[.pointer (some ⟨p2, 0, none⟩), .int .u64 addr, .int .i64 size, .int .u64 v] w fun x w' => x = .returned (.bool (okS size && hasR bs n addr size)) ∧ ∃ own', Step (· = 2) own w own' w' ∧ FE w0 own' w' e p p2 bs n s m (wrR bs n m2 addr size v) := by
  refine (mref_Write h.mr addr size v ha0 ha1 hs0 hs1 hv0 hv1).mono ?_
  rintro x w' ⟨rfl, own', hS, hM⟩
  exact ⟨rfl, own', hS, h.st.trans (hS.mono (fun x hx e => by rw [hx] at e; cases e)), h.mm.step hS (by decide), hM, h.eg.step hS (by decide), h.ok⟩
end
end Go.Proofs.YtonhlgfgbdiapaaGreat
