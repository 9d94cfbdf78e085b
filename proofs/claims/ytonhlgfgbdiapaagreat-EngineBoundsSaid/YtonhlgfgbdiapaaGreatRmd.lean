import Derived.Test.YtonhlgfgbdiapaaGreatRmb
import Derived.Test.YtonhlgfgbdiapaaGreatRma
import Derived.Test.YtonhlgfgbdiapaaGreatRmc
import Derived.Test.YtonhlgfgbdiapaaGreatMemC
import Derived.Test.YtonhlgfgbdiapaaGreatIoN
import Derived.Test.YtonhlgfgbdiapaaGreatLaw4
import Derived.Test.YtonhlgfgbdiapaaGreatMref5
import Derived.Laws.Tables
import Derived.Laws.CopyOwn
import Derived.Deep.WholeRow
import Derived.Test.YtonhlgfgbdiapaaGreatRow
/- The engine: Read; Flat; a flat way. -/
namespace Go.Proofs.YtonhlgfgbdiapaaGreat
set_option linter.unusedVariables false
set_option linter.unusedSimpArgs false
open Go.RowKit Go.Maps
set_option maxRecDepth 100000

section
variable {own own' : Nat → Nat} {c e mp rb b : Nat} {way rd : Value} {w w' : World} {s s' : Eg}
set_option maxHeartbeats 3000000 in
theorem eng_Read (h : EngAt own c w e mp way s) (hok : EgOk s) (off : Nat) (hoff : off < 18446744073709551616) (size : Int) (hs0 : -9223372036854775808 ≤ size) (hs1 : size ≤ 9223372036854775807) :
    Calls Tryz.prog 12 #[.pointer (some ⟨e, 0, none⟩), .int .u64 (off : Int), .int .i64 size] w fun x w' => x = .returned (.tuple #[.int .u64 (readE s off size : Int), .bool (fitsE off size)]) ∧ ∃ own', Step (· = c) own w own' w' ∧ EngAt own' c w' e mp way s := by
  have HFi := Lib.hid (eng_fits off hoff size hs0 hs1 w)
  cases hf : fitsE off size with
  | false =>
    rw [hf] at HFi
    rw [show readE s off size = 0 from by unfold readE; rw [hf]; rfl]
    have HF := Lib.hid (And.intro (Step.refl (· = c) own w) h)
    clear h hok hf
    go_enter Tryz.func12, Tryz.ntmps12
    go_wp2_with fail
    ((with_reducible refine HFi.out.mono ?_); rintro x wz ⟨rfl, rfl⟩)
    clear HFi
    go_wp2
    go_ret2
    exact ⟨rfl, _, HF.out⟩
  | true =>
    rw [hf] at HFi
    obtain ⟨hsz, hmod, hoff2⟩ : (size = 4 ∨ size = 8) ∧ (off : Int) % size = 0 ∧ off < 56 := by
      unfold fitsE at hf
      simp only [Bool.and_eq_true, Bool.or_eq_true, beq_iff_eq, decide_eq_true_eq] at hf
      exact ⟨hf.1.1, hf.1.2, hf.2⟩
    have hrd : readE s off size = if size = 8 then regE s (off / 8 * 8) else regE s (off / 8 * 8) / 2 ^ (8 * (off % 8)) % 4294967296 := by unfold readE; rw [hf]; rfl
    rw [hrd]
    have hrg := eng_register h off hoff2
    obtain ⟨k, hk⟩ : ∃ k, off / 8 * 8 = k := ⟨_, rfl⟩
    rw [hk] at hrg ⊢
    have hb := hok.rg
    have hst := hok.st
    have key : ∀ V : Nat, V < 18446744073709551616 → V = regE s k → True := fun _ _ _ => trivial
    have hV : regE s k < 18446744073709551616 := by unfold regE; split; decide; split; omega; exact hb k
    obtain ⟨V, hVe⟩ : ∃ V, regE s k = V := ⟨_, rfl⟩
    rw [hVe] at hV ⊢
    have hrv : ∃ f, (kvGet (rdsL e) k).getD .nilFunc = bmE f e ∧ (f = 38 ∨ f = 39 ∨ f = 41 ∨ f = 62 ∨ f = 63 ∨ f = 42 ∨ f = 43) ∧
        ∀ (own' : Nat → Nat) (w' : World), EngAt own' c w' e mp way s → Calls Tryz.prog f #[.pointer (some ⟨e, 0, none⟩)] w' fun x w'' => x = .returned (.int .u64 (V : Int)) ∧ w' = w'' := by
      rcases (show k = 0 ∨ k = 8 ∨ k = 16 ∨ k = 24 ∨ k = 32 ∨ k = 40 ∨ k = 48 by omega) with rfl | rfl | rfl | rfl | rfl | rfl | rfl
      · exact ⟨_, rfl, by decide, fun _ _ h => by rw [← hVe]; exact eng_src h⟩
      · exact ⟨_, rfl, by decide, fun _ _ h => by rw [← hVe]; exact eng_dst h⟩
      · exact ⟨_, rfl, by decide, fun _ _ h => by rw [← hVe]; exact eng_len h⟩
      · exact ⟨_, rfl, by decide, fun _ _ h => by rw [← hVe]; exact eng_control _⟩
      · exact ⟨_, rfl, by decide, fun _ _ h => by rw [← hVe]; exact eng_status h⟩
      · exact ⟨_, rfl, by decide, fun _ _ h => by rw [← hVe]; exact eng_msi h⟩
      · exact ⟨_, rfl, by decide, fun _ _ h => by rw [← hVe]; exact eng_data h⟩
    obtain ⟨f, hbm, hfs, hC⟩ := hrv
    rw [hbm] at hrg
    unfold bmE at hrg
    have HRg := Lib.hid hrg
    have HC := Lib.hid hC
    have ha4 := and4_u off hoff2
    have hfin : (if size = 8 then V else V / 2 ^ (8 * (off % 8)) % 4294967296) = if size = 8 then V else if off / 4 % 2 = 1 then V / 4294967296 else V % 4294967296 := by
      rcases hsz with rfl | rfl
      · rw [if_neg (by decide), if_neg (by decide)]
        by_cases h4 : off / 4 % 2 = 1
        · rw [if_pos h4, show off % 8 = 4 by omega]; omega
        · rw [if_neg h4, show off % 8 = 0 by omega]; omega
      · rfl
    rw [hfin]
    clear hrg hC hbm h hok hf hrd hb hst key hVe hfin hk
    rcases hsz with rfl | rfl
    · by_cases h4 : off / 4 % 2 = 1
      · rw [if_neg (by decide), if_pos h4, show ((V / 4294967296 : Nat) : Int) = (V : Int) / 4294967296 by omega]
        rw [h4] at ha4
        have ha4' : bits .and .u64 (off : Int) 4 = 4 := ha4
        clear ha4 h4 hmod
        rcases hfs with rfl | rfl | rfl | rfl | rfl | rfl | rfl
        all_goals
          go_enter Tryz.func12, Tryz.ntmps12
          go_wp2_with fail
          ((with_reducible refine HFi.out.mono ?_); rintro x wz ⟨rfl, rfl⟩)
          clear HFi
          go_wp2_with fail
          ((with_reducible refine HRg.out.mono ?_); rintro x w1 ⟨rfl, own1, hS1, hE1⟩)
          have HF := Lib.hid (And.intro hS1 hE1)
          have HCC := Lib.hid (HC.out _ _ hE1)
          clear hS1 hE1 HRg HC
          go_wp2_with fail
          ((with_reducible refine HCC.out.mono ?_); rintro x wz ⟨rfl, rfl⟩)
          clear HCC
          go_wp2
          go_ret2
          exact ⟨rfl, _, HF.out⟩
      · rw [if_neg (by decide), if_neg h4, show ((V % 4294967296 : Nat) : Int) = (V : Int) % 4294967296 by omega]
        rw [show off / 4 % 2 = 0 by omega] at ha4
        have ha4' : bits .and .u64 (off : Int) 4 = 0 := ha4
        clear ha4 h4 hmod
        rcases hfs with rfl | rfl | rfl | rfl | rfl | rfl | rfl
        all_goals
          go_enter Tryz.func12, Tryz.ntmps12
          go_wp2_with fail
          ((with_reducible refine HFi.out.mono ?_); rintro x wz ⟨rfl, rfl⟩)
          clear HFi
          go_wp2_with fail
          ((with_reducible refine HRg.out.mono ?_); rintro x w1 ⟨rfl, own1, hS1, hE1⟩)
          have HF := Lib.hid (And.intro hS1 hE1)
          have HCC := Lib.hid (HC.out _ _ hE1)
          clear hS1 hE1 HRg HC
          go_wp2_with fail
          ((with_reducible refine HCC.out.mono ?_); rintro x wz ⟨rfl, rfl⟩)
          clear HCC
          go_wp2
          go_ret2
          exact ⟨rfl, _, HF.out⟩
    · rw [if_pos rfl]
      clear ha4 hmod
      rcases hfs with rfl | rfl | rfl | rfl | rfl | rfl | rfl
      all_goals
        go_enter Tryz.func12, Tryz.ntmps12
        go_wp2_with fail
        ((with_reducible refine HFi.out.mono ?_); rintro x wz ⟨rfl, rfl⟩)
        clear HFi
        go_wp2_with fail
        ((with_reducible refine HRg.out.mono ?_); rintro x w1 ⟨rfl, own1, hS1, hE1⟩)
        have HF := Lib.hid (And.intro hS1 hE1)
        have HCC := Lib.hid (HC.out _ _ hE1)
        clear hS1 hE1 HRg HC
        go_wp2_with fail
        ((with_reducible refine HCC.out.mono ?_); rintro x wz ⟨rfl, rfl⟩)
        clear HCC
        go_wp2
        go_ret2
        exact ⟨rfl, _, HF.out⟩
end
end Go.Proofs.YtonhlgfgbdiapaaGreat

/- The engine's laws, plain. -/
namespace Go.Proofs.YtonhlgfgbdiapaaGreat
set_option linter.unusedVariables false
set_option linter.unusedSimpArgs false
open Go.RowKit
/-- told three places and begun by a write of its control -/
def toldE (a b k : Nat) : Eg := putE (putE (putE eg0 0 a) 8 b) 16 k
theorem tellE (a b k : Nat) : writeE (writeE (writeE eg0 0 8 a) 8 8 b) 16 8 k = toldE a b k := by
  have h : ∀ (s : Eg) (o v : Nat), s.st ≠ 1 → (o = 0 ∨ o = 8 ∨ o = 16) → writeE s o 8 v = putE s o v := by
    rintro s o v hs (rfl | rfl | rfl)
    all_goals simp [writeE, setE, fitsE, hs]
  rw [h eg0 0 a (show (0 : Nat) ≠ 1 by decide) (.inl rfl), h _ 8 b (show (0 : Nat) ≠ 1 by decide) (.inr (.inl rfl)), h _ 16 k (show (0 : Nat) ≠ 1 by decide) (.inr (.inr rfl))]
  rfl
def begE (a b k : Nat) : Eg := cmdE (toldE a b k) 1
theorem wr24 (s : Eg) (size : Int) (hz : size = 4 ∨ size = 8) (v : Nat) : writeE s 24 size v = cmdE s v := by
  rcases hz with rfl | rfl
  all_goals simp [writeE, fitsE]
def rightE (a b k : Nat) : Bool := decide (0 < k ∧ k ≤ 4096 ∧ k % 8 = 0 ∧ a % 8 = 0 ∧ b % 8 = 0)
theorem badG_told (a b k : Nat) : badG (toldE a b k) = !rightE a b k := by
  unfold badG rightE
  show (decide (k = 0) || decide (4096 < k) || decide (a % 8 ≠ 0) || decide (b % 8 ≠ 0) || decide (k % 8 ≠ 0)) = _
  rw [Bool.eq_iff_iff]
  simp
  omega
theorem begE_eq (a b k : Nat) : begE a b k = { toldE a b k with st := if rightE a b k then 1 else 3, cp := 0 } := by
  unfold begE cmdE
  rw [if_neg (show ¬ (toldE a b k).st = 1 by show ¬ (0 : Nat) = 1; decide), if_pos rfl, badG_told]
  cases rightE a b k <;> rfl
theorem begE_st (a b k : Nat) : (begE a b k).st = if rightE a b k then 1 else 3 := by rw [begE_eq]
/-- behind j steps of an engine that was begun -/
structure RunE (a b k : Nat) (s : Eg) : Prop where
  r0 : s.rg 0 = a
  r8 : s.rg 8 = b
  r16 : s.rg 16 = k
  r40 : s.rg 40 = 0
def fitJ (base n a b j : Nat) : Bool := hasR base n (((a + 8 * j) % 18446744073709551616 : Nat) : Int) 8 && hasR base n (((b + 8 * j) % 18446744073709551616 : Nat) : Int) 8
theorem RunE.beg (a b k : Nat) : RunE a b k (begE a b k) := by rw [begE_eq]; exact ⟨rfl, rfl, rfl, rfl⟩
theorem goF_fit {a b k base n j : Nat} {s : Eg} (h : RunE a b k s) (hc : s.cp = 8 * j) : goF base n s = fitJ base n a b j := by
  unfold goF fitJ
  rw [h.r0, h.r8, hc]
/-- a run that goes on: all places are there -/
theorem run_go {a b k base n j : Nat} {s : Eg} (h : RunE a b k s) (hs : s.st = 1) (hc : s.cp = 8 * j) (hf : fitJ base n a b j = true) :
    stepS base n s = (if 8 * j + 8 < k then { s with cp := 8 * j + 8 } else { s with st := 2, cp := 8 * j + 8 }) ∧ stepR base n s = (0, 0, false) := by
  have hg := goF_fit (base := base) (n := n) h hc
  have h1 : stepS base n s = (if 8 * j + 8 < k then { s with cp := 8 * j + 8 } else { s with st := 2, cp := 8 * j + 8 }) := by
    unfold stepS
    rw [if_pos hs, hg, if_pos hf, h.r16, hc]
  refine ⟨h1, ?_⟩
  unfold stepR
  split
  · unfold msgE; rw [h.r40]; rfl
  · rfl
theorem run_mem {a b k base n j : Nat} {s : Eg} (m : Nat → Int) (h : RunE a b k s) (hs : s.st = 1) (hc : s.cp = 8 * j) (hf : fitJ base n a b j = true) :
    stepM base n s m = wrR base n m (((b + 8 * j) % 18446744073709551616 : Nat) : Int) 8 (rdR base n m (((a + 8 * j) % 18446744073709551616 : Nat) : Int) 8).1 := by
  unfold stepM
  rw [if_pos ⟨hs, (goF_fit (base := base) (n := n) h hc).trans hf⟩, h.r0, h.r8, hc]
end Go.Proofs.YtonhlgfgbdiapaaGreat

/- An engine over a plain memory, and the document's memory beside it: what each call does to both. -/
namespace Go.Proofs.YtonhlgfgbdiapaaGreat
set_option linter.unusedVariables false
set_option linter.unusedSimpArgs false
open Go.RowKit
set_option maxRecDepth 100000

section
theorem flat_m1 (p : Nat) (w : World) : (method 334 145 (.agg #[.pointer (some ⟨p, 0, none⟩)]) "citadel/engine.access").run Tryz.prog w = .ok (170, .agg #[.pointer (some ⟨p, 0, none⟩)]) w := by kernel_rfl
theorem flat_m2 (p : Nat) (w : World) : (method 334 145 (.agg #[.pointer (some ⟨p, 0, none⟩)]) "citadel/engine.message").run Tryz.prog w = .ok (171, .agg #[.pointer (some ⟨p, 0, none⟩)]) w := by kernel_rfl
theorem flat_c1 (args : Array Value) (w : World) : (callFunc 170 args).run Tryz.prog w = .ok (.enter 170 args) w := by kernel_rfl
theorem flat_c2 (args : Array Value) (w : World) : (callFunc 171 args).run Tryz.prog w = .ok (.enter 171 args) w := by kernel_rfl
variable {own own' : Nat → Nat} {c cm e mp base n : Nat} {w w' : World} {s : Eg} {m : Nat → Int}
theorem rdR_bd (base n : Nat) {m : Nat → Int} (hm : ∀ x, 0 ≤ m x ∧ m x < 256) (a : Int) : 0 ≤ (rdR base n m a 8).1 ∧ (rdR base n m a 8).1 < 18446744073709551616 := by
  unfold rdR
  split
  · have h3 := num_lt hm (8 : Int).toNat (a - base).toNat
    have h2 : (256 : Int) ^ (8 : Int).toNat = 18446744073709551616 := by decide
    rw [h2] at h3
    exact ⟨num_nonneg hm _ _, h3⟩
  · decide
theorem which_mod (s : Eg) (o1 o2 : Bool) : whichE s o1 o2 % 10 = 4 ↔ (s.st = 1 ∧ (o1 && o2) = true) := by
  unfold whichE atE
  by_cases hs : s.st = 1
  · by_cases hn : (nextE s o1 o2).st = 1
    · cases o1 <;> cases o2 <;> simp [hs, hn]
    · by_cases h4 : s.rg 40 = 0 <;> cases o1 <;> cases o2 <;> simp [hs, hn, h4]
  · simp [hs]
/-- a step of an engine over a plain memory -/
theorem eng_StepF (h : EngAt own c w e mp (wayF mp) s) (hok : EgOk s) (hM : MemAt ramK own cm w mp base n m) (hc : c ≠ cm) :
    Calls Tryz.prog 17 #[.pointer (some ⟨e, 0, none⟩)] w fun x w' => x = .returned (.tuple #[.agg #[.int .i64 (stepR base n s).1, .int .i64 (stepR base n s).2.1], .bool (stepR base n s).2.2]) ∧
      ∃ own', Step (fun x => x = c ∨ x = cm) own w own' w' ∧ EngAt own' c w' e mp (wayF mp) (stepS base n s) ∧ MemAt ramK own' cm w' mp base n (stepM base n s m) := by
  obtain ⟨a1, ha1⟩ : ∃ a, (s.rg 0 + s.cp) % 18446744073709551616 = a := ⟨_, rfl⟩
  obtain ⟨a2, ha2⟩ : ∃ a, (s.rg 8 + s.cp) % 18446744073709551616 = a := ⟨_, rfl⟩
  have b1 : a1 < 18446744073709551616 := by omega
  have b2 : a2 < 18446744073709551616 := by omega
  obtain ⟨v0, v1⟩ := rdR_bd base n hM.bd (a1 : Int)
  obtain ⟨v, hv⟩ := Int.eq_ofNat_of_zero_le v0
  have hG : goF base n s = (hasR base n (a1 : Int) 8 && hasR base n (a2 : Int) 8) := by unfold goF; rw [ha1, ha2]
  have key := eng_StepG (c := c) (V := fun i own w => MemAt ramK own cm w mp base n (if i % 10 = 4 then wrR base n m (a2 : Int) 8 (v : Int) else m)) (C := (· = cm)) (o1 := hasR base n (a1 : Int) 8) (o2 := hasR base n (a2 : Int) 8) (f1 := a1) (f2 := a2) (v := v) (R := fun _ => msgF (s.rg 40) (s.rg 48)) (ac := 170) (ms := 171) h hok
    (fun hs => {
      m1 := flat_m1 mp, m2 := flat_m2 mp, c1 := flat_c1, c2 := flat_c2, hC := hc
      hV := fun i own w own' w' hm hS => hm.step hS (fun e => hc e.symm)
      b1 := b1, b2 := b2, bv := by omega
      A1 := fun own w hm => by
        rw [ha1]
        refine (flat_access hm cm a1 b1 false).mono ?_
        rintro x w' ⟨rfl, hS⟩
        exact ⟨rfl, _, hS.mono (fun _ h => h.elim), hm.step hS (fun h => h)⟩
      A2 := fun _ own w hm => by
        rw [ha2]
        refine (flat_access hm cm a2 b2 true).mono ?_
        rintro x w' ⟨rfl, hS⟩
        exact ⟨rfl, _, hS.mono (fun _ h => h.elim), hm.step hS (fun h => h)⟩
      rd := fun o1 o2 own w hm => by
        refine (ram_Read hm (a1 : Int) 8 (by omega) (by omega) (by decide) (by decide)).mono ?_
        rintro x w' ⟨rfl, k, rfl⟩
        exact ⟨_, by rw [← hv]; rfl, _, (Step.refl _ _ _).drewN k, hm.drewN k⟩
      wr := fun o1 o2 own w hm => by
        refine (ram_Write hm (a2 : Int) 8 (v : Int) (by omega) (by omega) (by decide) (by decide) (by omega) (by omega)).mono ?_
        rintro x w' ⟨rfl, own', hS, hm'⟩
        exact ⟨_, rfl, own', hS, hm'⟩
      ms := fun i hi own w hm => by
        refine (flat_message own cm mp cm (s.rg 40) (s.rg 48) (hok.rg _) (hok.rg _) w).mono ?_
        rintro x w' ⟨rfl, own', hS⟩
        refine ⟨rfl, own', hS.mono (fun _ h => h.elim), ?_⟩
        have := hm.step hS (fun h => h)
        rwa [show (i + 10) % 10 = i % 10 by omega] }) (fun i own w own' w' hm hS => hm.step hS (fun e => hc e.symm)) hM
  refine key.mono ?_
  rintro x w' ⟨rfl, own', hS, hE, hm⟩
  have hnx : nextE s (hasR base n (a1 : Int) 8) (hasR base n (a2 : Int) 8) = stepS base n s := by unfold nextE stepS; rw [hG]
  have hre : resE s (hasR base n (a1 : Int) 8) (hasR base n (a2 : Int) 8) (fun _ => msgF (s.rg 40) (s.rg 48)) = stepR base n s := by
    unfold resE stepR msgE
    rw [hnx]
    by_cases hs : s.st = 1
    · by_cases hx : (stepS base n s).st = 1 <;> simp [hs, hx]
    · simp [hs]
  have hme : (if whichE s (hasR base n (a1 : Int) 8) (hasR base n (a2 : Int) 8) % 10 = 4 then wrR base n m (a2 : Int) 8 (v : Int) else m) = stepM base n s m := by
    unfold stepM
    rw [hG, ha1, ha2, hv]
    by_cases hx : s.st = 1 ∧ (hasR base n (a1 : Int) 8 && hasR base n (a2 : Int) 8) = true
    · rw [if_pos ((which_mod _ _ _).2 hx), if_pos hx]
    · rw [if_neg (fun h => hx ((which_mod _ _ _).1 h)), if_neg hx]
  rw [hre]
  rw [hnx] at hE
  rw [hme] at hm
  exact ⟨rfl, own', hS, hE, hm⟩
end
/-- the engine e over the memory p (colours 3, 1), the document's memory p2 (2); whatever was there (colour 0) is as it was -/
structure FE (w0 : World) (own : Nat → Nat) (w : World) (e p p2 bs n : Nat) (s : Eg) (m m2 : Nat → Int) : Prop where
  st : Step (· ≠ 0) (fun _ => 0) w0 own w
  mm : MemAt ramK own 1 w p bs n m
  mr : MemAt refK own 2 w p2 bs n m2
  eg : EngAt own 3 w e p (wayF p) s
  ok : EgOk s
section
variable {w0 w w' : World} {own own' : Nat → Nat} {e p p2 bs n : Nat} {s s' : Eg} {m m' m2 m2' : Nat → Int}
theorem FE.upd (h : FE w0 own w e p p2 bs n s m m2) : Upd (fun _ => False) w0 w := h.st.upd.mono (fun i _ hx => absurd rfl hx)
theorem FE.step {C : Nat → Prop} (h : FE w0 own w e p p2 bs n s m m2) (hS : Step C own w own' w') (h0 : ¬ C 0) (h1 : ¬ C 1) (h2 : ¬ C 2) (h3 : ¬ C 3) : FE w0 own' w' e p p2 bs n s m m2 :=
  ⟨h.st.trans (hS.mono (fun x hx e => h0 (e ▸ hx))), h.mm.step hS h1, h.mr.step hS h2, h.eg.step hS h3, h.ok⟩
theorem FE.none_ (h : FE w0 own w e p p2 bs n s m m2) (hS : Step (fun _ => False) own w own' w') : FE w0 own' w' e p p2 bs n s m m2 := h.step hS (fun x => x) (fun x => x) (fun x => x) (fun x => x)
theorem FE.busy (h : FE w0 own w e p p2 bs n s m m2) : Calls Tryz.prog 13 #[.pointer (some ⟨e, 0, none⟩)] w fun x w' => x = .returned (.bool (decide (s.st = 1))) ∧ w = w' := eng_Busy h.eg
theorem FE.write (h : FE w0 own w e p p2 bs n s m m2) (off : Nat) (hoff : off < 18446744073709551616) (size : Int) (hs0 : -9223372036854775808 ≤ size) (hs1 : size ≤ 9223372036854775807) (v : Nat) (hv : v < 18446744073709551616) :
    Calls Tryz.prog 11 #[.pointer (some ⟨e, 0, none⟩), .int .u64 (off : Int), .int .i64 size, .int .u64 (v : Int)] w fun x w' => x = .returned (.bool (fitsE off size)) ∧ ∃ own', Step (· = 3) own w own' w' ∧ FE w0 own' w' e p p2 bs n (writeE s off size v) m m2 := by
  refine (eng_Write h.eg h.ok off hoff size hs0 hs1 v hv).mono ?_
  rintro x w' ⟨rfl, hS, hE⟩
  exact ⟨rfl, own, hS, h.st.trans (hS.mono (fun x hx e => by rw [hx] at e; cases e)), h.mm.step hS (by decide), h.mr.step hS (by decide), hE, h.ok.write off size v hv⟩
theorem FE.read (h : FE w0 own w e p p2 bs n s m m2) (off : Nat) (hoff : off < 18446744073709551616) (size : Int) (hs0 : -9223372036854775808 ≤ size) (hs1 : size ≤ 9223372036854775807) :
    Calls Tryz.prog 12 #[.pointer (some ⟨e, 0, none⟩), .int .u64 (off : Int), .int .i64 size] w fun x w' => x = .returned (.tuple #[.int .u64 (readE s off size : Int), .bool (fitsE off size)]) ∧ ∃ own', Step (· = 3) own w own' w' ∧ FE w0 own' w' e p p2 bs n s m m2 := by
  refine (eng_Read h.eg h.ok off hoff size hs0 hs1).mono ?_
  rintro x w' ⟨rfl, own', hS, hE⟩
  exact ⟨rfl, own', hS, h.st.trans (hS.mono (fun x hx e => by rw [hx] at e; cases e)), h.mm.step hS (by decide), h.mr.step hS (by decide), hE, h.ok⟩
/-- with the numbers as the goal shows them -/
theorem FE.writeL (h : FE w0 own w e p p2 bs n s m m2) (off : Nat) (oI : Int) (hoI : oI = (off : Int)) (hoff : off < 18446744073709551616) (size : Int) (hs0 : -9223372036854775808 ≤ size) (hs1 : size ≤ 9223372036854775807) (v : Nat) (vI : Int) (hvI : vI = (v : Int)) (hv : v < 18446744073709551616) (fb : Bool) (hfb : fitsE off size = fb) :
    Calls Tryz.prog 11 #[.pointer (some ⟨e, 0, none⟩), .int .u64 oI, .int .i64 size, .int .u64 vI] w fun x w' => x = .returned (.bool fb) ∧ ∃ own', Step (· = 3) own w own' w' ∧ FE w0 own' w' e p p2 bs n (writeE s off size v) m m2 := by
  subst hoI hvI hfb; exact h.write off hoff size hs0 hs1 v hv
theorem FE.readL (h : FE w0 own w e p p2 bs n s m m2) (off : Nat) (oI : Int) (hoI : oI = (off : Int)) (hoff : off < 18446744073709551616) (size : Int) (hs0 : -9223372036854775808 ≤ size) (hs1 : size ≤ 9223372036854775807) (r : Nat) (rI : Int) (hr : readE s off size = r) (hrI : rI = (r : Int)) (fb : Bool) (hfb : fitsE off size = fb) :
    Calls Tryz.prog 12 #[.pointer (some ⟨e, 0, none⟩), .int .u64 oI, .int .i64 size] w fun x w' => x = .returned (.tuple #[.int .u64 rI, .bool fb]) ∧ ∃ own', Step (· = 3) own w own' w' ∧ FE w0 own' w' e p p2 bs n s m m2 := by
  subst hoI hrI hr hfb; exact h.read off hoff size hs0 hs1
theorem FE.stepE (h : FE w0 own w e p p2 bs n s m m2) :
    Calls Tryz.prog 17 #[.pointer (some ⟨e, 0, none⟩)] w fun x w' => x = .returned (.tuple #[.agg #[.int .i64 (stepR bs n s).1, .int .i64 (stepR bs n s).2.1], .bool (stepR bs n s).2.2]) ∧ ∃ own', Step (fun x => x = 1 ∨ x = 3) own w own' w' ∧ FE w0 own' w' e p p2 bs n (stepS bs n s) (stepM bs n s m) m2 := by
  refine (eng_StepF h.eg h.ok h.mm (by decide)).mono ?_
  rintro x w' ⟨rfl, own', hS, hE, hM⟩
  have hS := hS.mono (C' := fun x => x = 1 ∨ x = 3) (fun x hx => hx.elim .inr .inl)
  exact ⟨rfl, own', hS, h.st.trans (hS.mono (fun x hx e => by rw [e] at hx; rcases hx with h | h <;> cases h)), hM, h.mr.step hS (by decide), hE, h.ok.step bs n⟩
theorem FE.readR (h : FE w0 own w e p p2 bs n s m m2) (addr size : Int) (ha0 : 0 ≤ addr) (ha1 : addr < 18446744073709551616) (hs0 : -9223372036854775808 ≤ size) (hs1 : size ≤ 9223372036854775807) :
    Calls Tryz.prog 37 #[.pointer (some ⟨p, 0, none⟩), .int .u64 addr, .int .i64 size] w fun x w' => x = .returned (.tuple #[.int .u64 (rdR bs n m addr size).1, .bool (rdR bs n m addr size).2]) ∧ Step (fun _ => False) own w own w' := by
  refine (ram_Read h.mm addr size ha0 ha1 hs0 hs1).mono ?_
  rintro x w' ⟨rfl, k, rfl⟩
  exact ⟨rfl, (Step.refl _ _ _).drewN k⟩
end
end Go.Proofs.YtonhlgfgbdiapaaGreat

/- Both engines over plain memories (EngineFlat). -/
namespace Go.Proofs.YtonhlgfgbdiapaaGreat
set_option linter.unusedVariables false
set_option linter.unusedSimpArgs false
open Go.RowKit Go.Maps
set_option maxRecDepth 100000
section
variable {own own' : Nat → Nat} {c cm d q p2 bs n e mp : Nat} {dev : Int} {w w' : World} {s t t' : Eg} {m : Nat → Int} {way : Value}
end
end Go.Proofs.YtonhlgfgbdiapaaGreat

/- An engine behind an IOMMU, plain: what a step does to both. -/
namespace Go.Proofs.YtonhlgfgbdiapaaGreat
set_option linter.unusedVariables false
set_option linter.unusedSimpArgs false
open Go.RowKit
set_option maxRecDepth 100000
/-- the IOMMU's state, memory, what is remembered -/
structure Uv where
  s : Us
  m : Nat → Int
  l : List Tr
def accK (r : Nat) (dev : Int) (u : Uv) (a : Nat) (wr : Bool) : Nat × Nat × List Tr := accA 8 u.m u.s r u.l dev a 8 wr
def accU (r : Nat) (dev : Int) (u : Uv) (a : Nat) (wr : Bool) : Uv := ⟨accSt u.s dev (accK r dev u a wr).2.1, accMt u.s u.m dev (accK r dev u a wr).2.1 a, (accK r dev u a wr).2.2⟩
def msgU (ms : List To4) (dev : Int) (u : Uv) (a k : Nat) : Uv := ⟨msgS u.s ms dev a k, msgM u.s u.m ms dev a k, u.l⟩
def msgT (ms : List To4) (dev : Int) (a k : Nat) : Int × Int × Bool := ((msgV ms dev a k).1, (msgV ms dev a k).2, msgOk ms dev a k)
theorem accMt_bd {s : Us} {m : Nat → Int} (hm : ∀ x, 0 ≤ m x ∧ m x < 256) (dev : Int) (k a : Nat) : ∀ x, 0 ≤ accMt s m dev k a x ∧ accMt s m dev k a x < 256 := by
  unfold accMt
  split
  · exact hm
  · exact recM_bd hm _ _ _
theorem accA_lt {m : Nat → Int} {s : Us} {room : Nat} {l : List Tr} {dev : Int} {a : Nat} {sz : Int} {wr : Bool} : (accA 8 m s room l dev a sz wr).1 ≤ 32768 := by
  have hh : ∀ x : Nat, ∀ z : Int, hasR 0 8 (x : Int) z = true → x ≤ 32768 := fun x z h => by
    have := hasR_iff.1 h
    omega
  unfold accA
  split
  · show 0 ≤ 32768; decide
  · split
    · show 0 ≤ 32768; decide
    · unfold accL
      split
      · split
        · split
          · rename_i h; exact hh _ _ h
          · show 0 ≤ 32768; decide
        · split
          · show 0 ≤ 32768; decide
          · split
            · rename_i h; exact hh _ _ h
            · show 0 ≤ 32768; decide
      · split
        · show 0 ≤ 32768; decide
        · split
          · rename_i h; exact hh _ _ h
          · show 0 ≤ 32768; decide
theorem accA_ents {n : Nat} {m : Nat → Int} {s : Us} {room : Nat} {l : List Tr} {dev : Int} {a : Nat} {sz : Int} {wr : Bool} (h : EntsOk l) : EntsOk (accA n m s room l dev a sz wr).2.2 := by
  unfold accA
  split
  · exact h
  · split
    · exact h
    · rename_i hr
      have hb := @guest_bd n m (rootP s dev) a (accW wr) hr
      unfold accL
      split
      · split
        · split <;> exact h
        · split
          · exact h
          · split
            · exact h.put (by simp only []; omega) room
            · exact h.put (by simp only []; omega) room
      · split
        · exact h
        · split
          · exact h.put (by simp only []; omega) room
          · exact h.put (by simp only []; omega) room
section
variable (r : Nat) (dev : Int) (ms : List To4) (u : Uv) (s t : Eg)
def plA (s : Eg) : Nat := (s.rg 0 + s.cp) % 18446744073709551616
def plB (s : Eg) : Nat := (s.rg 8 + s.cp) % 18446744073709551616
def oA : Bool := (accK r dev u (plA s) false).2.1 == 0
def fA : Nat := (accK r dev u (plA s) false).1
def u1 : Uv := accU r dev u (plA s) false
def oB : Bool := (accK r dev (u1 r dev u s) (plB s) true).2.1 == 0
def fB : Nat := (accK r dev (u1 r dev u s) (plB s) true).1
def u2 : Uv := accU r dev (u1 r dev u s) (plB s) true
def vX : Nat := (rdR 0 8 (u2 r dev u s).m (fA r dev u s : Int) 8).1.toNat
def u4 : Uv := { u2 r dev u s with m := wrR 0 8 (u2 r dev u s).m (fB r dev u s : Int) 8 (vX r dev u s : Int) }
/-- the stages of a step -/
def uAt (i : Nat) : Uv := if i = 0 then u else if i = 1 then u1 r dev u s else if i = 2 ∨ i = 3 then u2 r dev u s else u4 r dev u s
def uSt (i : Nat) : Uv := if i < 10 then uAt r dev u s i else msgU ms dev (uAt r dev u s (i - 10)) (s.rg 40) (s.rg 48)
def stepX : Eg := nextE s (oA r dev u s) (oB r dev u s)
def stepU : Uv := uSt r dev ms u s (whichE s (oA r dev u s) (oB r dev u s))
def stepT : Int × Int × Bool := resE s (oA r dev u s) (oB r dev u s) (fun _ => msgT ms dev (s.rg 40) (s.rg 48))
end
theorem EgOk.next {s : Eg} (h : EgOk s) (o1 o2 : Bool) : EgOk (nextE s o1 o2) := by
  unfold nextE
  split
  · rename_i hs
    obtain ⟨h1, h2, h3, h4, h5, h6⟩ := h.run hs
    split
    · split
      · rename_i hl
        exact ⟨h.rg, h.st, by show s.cp + 8 < _; omega, fun _ => ⟨by show (s.cp + 8) % 8 = 0; omega, hl, h3, h4, h5, h6⟩⟩
      · exact ⟨h.rg, by simp, by show s.cp + 8 < _; omega, fun h => by simp at h⟩
    · exact ⟨h.rg, by simp, h.cp, fun h => by simp at h⟩
  · exact h
/-- the IOMMU's state is kept right -/
def PU (u : Uv) (ms : List To4) : Prop := PI u.s u.l ms
theorem PU.acc {u : Uv} {ms : List To4} (h : PU u ms) (r : Nat) (dev : Int) (a : Nat) (wr : Bool) : PU (accU r dev u a wr) ms :=
  (show PI u.s (accK r dev u a wr).2.2 ms from ⟨h.ok, accA_ents h.el, accA_uniq h.uq dev a 8 wr, h.rel⟩).accSt dev _
theorem PU.msg {u : Uv} {ms : List To4} (h : PU u ms) (dev : Int) (a k : Nat) : PU (msgU ms dev u a k) ms := PI.msgS h dev a k
theorem PU.at_ {u : Uv} {ms : List To4} (h : PU u ms) (r : Nat) (dev : Int) (s : Eg) (i : Nat) : PU (uAt r dev u s i) ms := by
  have h1 : PU (u1 r dev u s) ms := h.acc r dev _ _
  have h2 : PU (u2 r dev u s) ms := h1.acc r dev _ _
  unfold uAt
  split
  · exact h
  · split
    · exact h1
    · split
      · exact h2
      · exact h2
theorem PU.st {u : Uv} {ms : List To4} (h : PU u ms) (r : Nat) (dev : Int) (s : Eg) (i : Nat) : PU (uSt r dev ms u s i) ms := by
  unfold uSt
  split
  · exact h.at_ r dev s i
  · exact (h.at_ r dev s _).msg dev _ _
end Go.Proofs.YtonhlgfgbdiapaaGreat

/- EngineBounds, plain: a step turns only what its second access tells, and the ring. -/
namespace Go.Proofs.YtonhlgfgbdiapaaGreat
set_option linter.unusedVariables false
set_option linter.unusedSimpArgs false
open Go.RowKit
set_option maxRecDepth 100000
/-- tables below frame 7 name only tables below frame 7 -/
def LowT (m : Nat → Int) : Prop := ∀ t i, t < 7 → i < 512 → leafE (ent m t i) = false → nxtE (ent m t i) < 7
def SameLow (m m' : Nat → Int) : Prop := ∀ x, x < 28672 → m x = m' x
theorem ent_low {m m' : Nat → Int} (h : SameLow m m') {t i : Nat} (ht : t < 7) (hi : i < 512) : ent m t i = ent m' t i := by
  unfold ent
  rw [num_congr 8 (t * 4096 + 8 * i) (fun x h1 h2 => h x (by omega))]
theorem dn_low {m m' : Nat → Int} (hl : LowT m) (h : SameLow m m') (a : Nat) : ∀ lev t, t < 7 → dnG 0 8 m a lev t = dnG 0 8 m' a lev t := by
  have h0 : ∀ t, t < 7 → dnG 0 8 m a 0 t = dnG 0 8 m' a 0 t := fun t ht => by
    unfold dnG
    rw [Nat.sub_zero, ent_low h ht (Nat.mod_lt _ (by decide))]
  have h1 : ∀ t, t < 7 → dnG 0 8 m a 1 t = dnG 0 8 m' a 1 t := fun t ht => by
    unfold dnG
    have hn := hl t (a / 2 ^ 21 % 512) ht (Nat.mod_lt _ (by decide))
    rw [Nat.sub_zero, ent_low h ht (Nat.mod_lt _ (by decide))] at *
    cases hlf : leafE (ent m' t (a / 2 ^ 21 % 512)) with
    | true => rfl
    | false => rw [h0 _ (hn hlf)]
  intro lev t ht
  match lev with
  | 0 => exact h0 t ht
  | 1 => exact h1 t ht
  | _ + 2 =>
    unfold dnG
    have hn := hl t (a / 2 ^ 30 % 512) ht (Nat.mod_lt _ (by decide))
    rw [Nat.sub_zero, ent_low h ht (Nat.mod_lt _ (by decide))] at *
    cases hlf : leafE (ent m' t (a / 2 ^ 30 % 512)) with
    | true => rfl
    | false => rw [h1 _ (hn hlf)]
theorem guest_low {m m' : Nat → Int} (hl : LowT m) (h : SameLow m m') {root : Nat} (hr : root < 7) (a acc : Nat) : guestP 0 8 m root a acc = guestP 0 8 m' root a acc := by
  unfold guestP
  rw [dn_low hl h a 2 root hr]
theorem accT_low {m m' : Nat → Int} (hl : LowT m) (h : SameLow m m') {root : Nat} (hr : root < 7) (a size acc : Nat) : accT 8 m root a size acc = accT 8 m' root a size acc := by
  unfold accT
  rw [guest_low hl h hr]
theorem SoundL.low {m m' : Nat → Int} (hl : LowT m) (h : SameLow m m') {rt : Nat → Nat} (hr : ∀ d, rt d < 7) {l : List Tr} (hs : SoundL 8 m rt l) : SoundL 8 m' rt l := by
  intro t ht
  obtain ⟨d, a, acc, h1, h2, h3, h4, h5, h6, h7, h8⟩ := hs t ht
  rw [guest_low hl h (hr d)] at h6 h7 h8
  exact ⟨d, a, acc, h1, h2, h3, h4, h5, h6, h7, h8⟩
theorem SameLow.refl (m : Nat → Int) : SameLow m m := fun _ _ => rfl
theorem SameLow.trans {a b c : Nat → Int} (h : SameLow a b) (k : SameLow b c) : SameLow a c := fun x hx => (h x hx).trans (k x hx)
theorem LowT.low {m m' : Nat → Int} (hl : LowT m) (h : SameLow m m') : LowT m' := fun t i ht hi hf => by
  rw [← ent_low h ht hi] at hf ⊢
  exact hl t i ht hi hf
theorem put_low {m : Nat → Int} {o n : Nat} (ho : 28672 ≤ o) (v : Int) : SameLow m (put m o n v) := fun x hx => by
  unfold put
  rw [if_neg (by omega)]
/-- an IOMMU whose ring is frame 7 -/
structure RgU (u : Uv) (root : Nat) : Prop where
  ring : u.s.ring = 28672
  rt : ∀ d, u.s.rt d = if d = 3 then root else 0
theorem recM_low {s : Us} (h : s.ring = 28672) (m : Nat → Int) (d k a : Int) : SameLow m (recM s m d k a) := by
  unfold recM
  split
  · have hA : 28672 ≤ recA s := by unfold recA; omega
    exact ((put_low hA _).trans (put_low (by omega) _)).trans (put_low (by omega) _)
  · exact SameLow.refl _
theorem accMt_low {s : Us} (h : s.ring = 28672) (m : Nat → Int) (dev : Int) (k a : Nat) : SameLow m (accMt s m dev k a) := by
  unfold accMt
  split
  · exact SameLow.refl _
  · exact recM_low h _ _ _ _
theorem recS_ring (s : Us) : (recS s).ring = s.ring := by unfold recS; split <;> rfl
theorem recS_rt' (s : Us) : (recS s).rt = s.rt := by unfold recS; split <;> rfl
theorem nextS_ring (s : Us) : (nextS s).ring = s.ring := by unfold nextS; split <;> rfl
theorem nextS_rt' (s : Us) : (nextS s).rt = s.rt := by unfold nextS; split <;> rfl
theorem RgU.acc {u : Uv} {root : Nat} (h : RgU u root) (r : Nat) (dev : Int) (a : Nat) (wr : Bool) : RgU (accU r dev u a wr) root := by
  unfold accU accSt
  split
  · exact ⟨h.ring, h.rt⟩
  · exact ⟨(recS_ring _).trans h.ring, fun d => by show (recS u.s).rt d = _; rw [recS_rt']; exact h.rt d⟩
theorem RgU.next {u : Uv} {root : Nat} (h : RgU u root) : RgU ⟨nextS u.s, u.m, u.l⟩ root := ⟨(nextS_ring _).trans h.ring, fun d => by show (nextS u.s).rt d = _; rw [nextS_rt']; exact h.rt d⟩
theorem accU_low {u : Uv} {root : Nat} (h : RgU u root) (r : Nat) (dev : Int) (a : Nat) (wr : Bool) : SameLow u.m (accU r dev u a wr).m := accMt_low h.ring _ _ _ _
theorem msgU_low {u : Uv} {root : Nat} (h : RgU u root) (ms : List To4) (dev : Int) (a k : Nat) : SameLow u.m (msgU ms dev u a k).m := by
  unfold msgU msgM
  split
  · exact SameLow.refl _
  · exact accMt_low h.ring _ _ _ _
/-- what an access comes to, of a state whose entries are sound -/
structure SdU (u : Uv) (root : Nat) : Prop where
  rg : RgU u root
  lt : root < 7
  bd : ∀ x, 0 ≤ u.m x ∧ u.m x < 256
  low : LowT u.m
  sd : SoundL 8 u.m u.s.rt u.l
theorem SdU.rts {u : Uv} {root : Nat} (h : SdU u root) : ∀ d, u.s.rt d < 7 := fun d => by rw [h.rg.rt]; split; exact h.lt; decide
theorem SdU.acc {u : Uv} {root : Nat} (h : SdU u root) (r : Nat) (dev : Int) (a : Nat) (wr : Bool) : SdU (accU r dev u a wr) root := by
  have hl := accU_low h.rg r dev a wr
  have hs := (accA_sound h.bd h.sd r dev a 8 wr).2
  refine ⟨h.rg.acc r dev a wr, h.lt, accMt_bd h.bd _ _ _, h.low.low hl, ?_⟩
  have h2 : SoundL 8 u.m (accU r dev u a wr).s.rt (accU r dev u a wr).l := by
    show SoundL 8 u.m (accSt u.s dev _).rt _
    have : (accSt u.s dev (accK r dev u a wr).2.1).rt = u.s.rt := by unfold accSt; split; rfl; exact recS_rt' _
    rw [this]; exact hs
  exact h2.low h.low hl (fun d => by rw [(h.rg.acc r dev a wr).rt]; split; exact h.lt; decide)
theorem SdU.next {u : Uv} {root : Nat} (h : SdU u root) : SdU ⟨nextS u.s, u.m, u.l⟩ root := ⟨h.rg.next, h.lt, h.bd, h.low, by show SoundL 8 u.m (nextS u.s).rt u.l; rw [nextS_rt']; exact h.sd⟩
theorem accK_same {u u' : Uv} {root : Nat} (h : SdU u root) (h' : SdU u' root) (hm : SameLow u.m u'.m) (r : Nat) (dev : Int) (a : Nat) (wr : Bool) : (accK r dev u a wr).1 = (accK r dev u' a wr).1 ∧ (accK r dev u a wr).2.1 = (accK r dev u' a wr).2.1 := by
  have h1 := (accA_sound h.bd h.sd r dev a 8 wr).1
  have h2 := (accA_sound h'.bd h'.sd r dev a 8 wr).1
  have hrt : u.s.rt = u'.s.rt := funext fun d => by rw [h.rg.rt, h'.rg.rt]
  have hrp : rootP u.s dev = rootP u'.s dev := by unfold rootP; rw [hrt]
  have hlt : rootP u'.s dev < 7 := by
    unfold rootP
    split
    · exact h'.rts _
    · decide
  have he : accTT 8 u.m u.s dev a 8 wr = accTT 8 u'.m u'.s dev a 8 wr := by
    unfold accTT
    rw [hrp, accT_low h.low hm hlt]
  rw [he, ← h2] at h1
  have e1 := congrArg Prod.fst h1
  have e2 := congrArg Prod.snd h1
  exact ⟨e1, e2⟩
/-- what a step turns below frame 7 -/
theorem step_turns {u0 u : Uv} {root : Nat} (h0 : SdU u0 root) (h : SdU u root) (hm : SameLow u0.m u.m) (r : Nat) (dev : Int) (ms : List To4) (s : Eg) (x : Nat) (hx : x < 28672) (hne : (stepU r dev ms u s).m x ≠ u.m x) :
    s.st = 1 ∧ (accK r dev u0 (plB s) true).2.1 = 0 ∧ (accK r dev u0 (plB s) true).1 ≤ x ∧ x < (accK r dev u0 (plB s) true).1 + 8 := by
  have s1 : SdU (u1 r dev u s) root := h.acc r dev _ _
  have l1 : SameLow u.m (u1 r dev u s).m := accU_low h.rg r dev _ _
  have s2 : SdU (u2 r dev u s) root := s1.acc r dev _ _
  have l2 : SameLow u.m (u2 r dev u s).m := l1.trans (accU_low s1.rg r dev _ _)
  obtain ⟨e1, e2⟩ := accK_same h0 s1 (hm.trans l1) r dev (plB s) true
  have hst : s.st = 1 := by
    rcases Classical.em (s.st = 1) with h | h
    · exact h
    · exfalso
      apply hne
      unfold stepU
      rw [show whichE s (oA r dev u s) (oB r dev u s) = 0 from if_neg h]
      rfl
  have hat : ∀ i, i = 1 ∨ i = 2 → uAt r dev u s i = u1 r dev u s ∨ uAt r dev u s i = u2 r dev u s := fun i hi => by
    rcases hi with rfl | rfl
    · exact .inl rfl
    · exact .inr rfl
  have h4 : uAt r dev u s 4 = u4 r dev u s := rfl
  have hrg4 : RgU (u4 r dev u s) root := ⟨s2.rg.ring, s2.rg.rt⟩
  have hone : ∀ (v : Uv), RgU v root → SameLow u.m v.m → ∀ (a k : Nat), (msgU ms dev v a k).m x = u.m x := fun v hv hl a k => by
    rw [← (msgU_low hv ms dev a k) x hx]; exact (hl x hx).symm
  -- the stage that the step ends in
  have key : oA r dev u s = true ∧ oB r dev u s = true ∧ (u4 r dev u s).m x ≠ u.m x := by
    unfold stepU whichE at hne
    rw [if_pos hst] at hne
    have hlow12 : ∀ i, i = 1 ∨ i = 2 → (uSt r dev ms u s i).m x = u.m x ∧ (uSt r dev ms u s (i + 10)).m x = u.m x := fun i hi => by
      have hi10 : i < 10 := by omega
      have hu : uSt r dev ms u s i = uAt r dev u s i := by unfold uSt; rw [if_pos hi10]
      have hu2 : uSt r dev ms u s (i + 10) = msgU ms dev (uAt r dev u s i) (s.rg 40) (s.rg 48) := by unfold uSt; rw [if_neg (by omega), Nat.add_sub_cancel]
      rw [hu, hu2]
      rcases hat i hi with h | h
      · rw [h]; exact ⟨(l1 x hx).symm, hone _ s1.rg l1 _ _⟩
      · rw [h]; exact ⟨(l2 x hx).symm, hone _ s2.rg l2 _ _⟩
    have h4' : uSt r dev ms u s 4 = u4 r dev u s := rfl
    have h14 : uSt r dev ms u s (4 + 10) = msgU ms dev (u4 r dev u s) (s.rg 40) (s.rg 48) := rfl
    cases ha : oA r dev u s with
    | false =>
      exfalso
      rw [ha] at hne
      apply hne
      rw [show ∀ b, atE false b = 1 from fun _ => rfl]
      split
      · exact (hlow12 1 (.inl rfl)).1
      · split
        · exact (hlow12 1 (.inl rfl)).1
        · exact (hlow12 1 (.inl rfl)).2
    | true =>
      cases hb : oB r dev u s with
      | false =>
        exfalso
        rw [ha, hb] at hne
        apply hne
        rw [show atE true false = 2 from rfl]
        split
        · exact (hlow12 2 (.inr rfl)).1
        · split
          · exact (hlow12 2 (.inr rfl)).1
          · exact (hlow12 2 (.inr rfl)).2
      | true =>
        refine ⟨rfl, rfl, fun he => ?_⟩
        rw [ha, hb] at hne
        apply hne
        rw [show atE true true = 4 from rfl]
        split
        · rw [h4']; exact he
        · split
          · rw [h4']; exact he
          · rw [h14, ← (msgU_low hrg4 ms dev _ _) x hx]; exact he
  obtain ⟨_, hb, h4n⟩ := key
  have hk0 : (accK r dev (u1 r dev u s) (plB s) true).2.1 = 0 := by unfold oB at hb; simpa using hb
  refine ⟨hst, e2.trans hk0, ?_⟩
  have hf : (accK r dev u0 (plB s) true).1 = fB r dev u s := e1
  rw [hf]
  have hw : (u4 r dev u s).m = wrR 0 8 (u2 r dev u s).m (fB r dev u s : Int) 8 (vX r dev u s : Int) := rfl
  rw [hw] at h4n
  rcases Classical.em (fB r dev u s ≤ x ∧ x < fB r dev u s + 8) with h | h
  · exact h
  · exfalso
    apply h4n
    unfold wrR
    split
    · rw [show (((fB r dev u s : Nat) : Int) - ((0 : Nat) : Int)).toNat = fB r dev u s by omega, show (8 : Int).toNat = 8 from rfl]
      unfold put
      rw [if_neg (by omega)]
      exact (l2 x hx).symm
    · exact (l2 x hx).symm
end Go.Proofs.YtonhlgfgbdiapaaGreat

/- citadellaw07.On.Do, kind by kind (printed by gdo.py). -/
namespace Go.Proofs.YtonhlgfgbdiapaaGreat
set_option linter.unusedVariables false
set_option linter.unusedSimpArgs false
open Go.RowKit
set_option maxRecDepth 100000

section
variable {own : Nat → Nat} {w : World} {p q rp tp p2 t2 r : Nat} {s : Us} {m : Nat → Int} {l : List Tr} {ms : List To4} {xk xd xs xg xq : Int} {xa xv : Nat} {xw : Bool}
end
end Go.Proofs.YtonhlgfgbdiapaaGreat

/- citadellaw07.On.Do, kind by kind (printed by gdo.py). -/
namespace Go.Proofs.YtonhlgfgbdiapaaGreat
set_option linter.unusedVariables false
set_option linter.unusedSimpArgs false
open Go.RowKit
set_option maxRecDepth 100000

section
variable {own : Nat → Nat} {w : World} {p q rp tp p2 t2 r : Nat} {s : Us} {m : Nat → Int} {l : List Tr} {ms : List To4} {xk xd xs xg xq : Int} {xa xv : Nat} {xw : Bool}
end
end Go.Proofs.YtonhlgfgbdiapaaGreat

/- citadellaw07.On.Do, kind by kind (printed by gdo.py). -/
namespace Go.Proofs.YtonhlgfgbdiapaaGreat
set_option linter.unusedVariables false
set_option linter.unusedSimpArgs false
open Go.RowKit
set_option maxRecDepth 100000

section
variable {own : Nat → Nat} {w : World} {p q rp tp p2 t2 r : Nat} {s : Us} {m : Nat → Int} {l : List Tr} {ms : List To4} {xk xd xs xg xq : Int} {xa xv : Nat} {xw : Bool}
end
end Go.Proofs.YtonhlgfgbdiapaaGreat

/- citadellaw07.On.Do, kind by kind (printed by gdo.py). -/
namespace Go.Proofs.YtonhlgfgbdiapaaGreat
set_option linter.unusedVariables false
set_option linter.unusedSimpArgs false
open Go.RowKit
set_option maxRecDepth 100000

section
variable {own : Nat → Nat} {w : World} {p q rp tp p2 t2 r : Nat} {s : Us} {m : Nat → Int} {l : List Tr} {ms : List To4} {xk xd xs xg xq : Int} {xa xv : Nat} {xw : Bool}
end
end Go.Proofs.YtonhlgfgbdiapaaGreat

/- IommuPlays: any call of a script; a refused room. -/
namespace Go.Proofs.YtonhlgfgbdiapaaGreat
set_option linter.unusedVariables false
set_option linter.unusedSimpArgs false
open Go.RowKit
set_option maxRecDepth 100000

section
variable {own : Nat → Nat} {w : World} {p q rp tp p2 t2 r : Nat} {s : Us} {m : Nat → Int} {l : List Tr} {ms : List To4} {xk xd xs xg xq : Int} {xa xv : Nat} {xw : Bool}
end
end Go.Proofs.YtonhlgfgbdiapaaGreat

/- An engine behind an IOMMU: its way; the document's. -/
namespace Go.Proofs.YtonhlgfgbdiapaaGreat
set_option linter.unusedVariables false
set_option linter.unusedSimpArgs false
open Go.RowKit
set_option maxRecDepth 100000
def wayT (p : Nat) (dev : Int) : Value := .iface 105 (.agg #[.pointer (some ⟨p, 0, none⟩), .int .i64 dev])
section
theorem thr_m1 (p : Nat) (dev : Int) (w : World) : (method 334 105 (.agg #[.pointer (some ⟨p, 0, none⟩), .int .i64 dev]) "citadel/engine.access").run Tryz.prog w = .ok (168, .agg #[.pointer (some ⟨p, 0, none⟩), .int .i64 dev]) w := by kernel_rfl
theorem thr_m2 (p : Nat) (dev : Int) (w : World) : (method 334 105 (.agg #[.pointer (some ⟨p, 0, none⟩), .int .i64 dev]) "citadel/engine.message").run Tryz.prog w = .ok (169, .agg #[.pointer (some ⟨p, 0, none⟩), .int .i64 dev]) w := by kernel_rfl
theorem thr_c1 (args : Array Value) (w : World) : (callFunc 168 args).run Tryz.prog w = .ok (.enter 168 args) w := by kernel_rfl
theorem thr_c2 (args : Array Value) (w : World) : (callFunc 169 args).run Tryz.prog w = .ok (.enter 169 args) w := by kernel_rfl
/-- the program's side; the document's, of one state -/
def PAu (own : Nat → Nat) (w : World) (p rp tp r : Nat) (u : Uv) : Prop := PA own w p rp tp r u.s u.m u.l
variable {own : Nat → Nat} {w : World} {p q rp tp p2 t2 r qe c : Nat} {u : Uv} {ms : List To4} {dev : Int} {t : Eg}
theorem thr_access (hA : PAu own w p rp tp r u) (hP : PU u ms) (a : Nat) (ha : a < 18446744073709551616) (wr : Bool) :
    Calls Tryz.prog 168 #[.agg #[.pointer (some ⟨p, 0, none⟩), .int .i64 dev], .int .u64 (a : Int), .bool wr] w fun x w' => x = .returned (.tuple #[.int .u64 ((accK r dev u a wr).1 : Int), .bool ((accK r dev u a wr).2.1 == 0)]) ∧ ∃ own', Step (fun x => x ≠ 0 ∧ x < 5) own w own' w' ∧ PAu own' w' p rp tp r (accU r dev u a wr) := by
  have hS1 : Step (fun _ => False) own w (ext own w 50) (w.alloc (.cells #[.pointer (some ⟨p, 0, none⟩), .int .i64 dev] 105)) := ⟨(Upd.refl _ _).alloc _, fun b hb => ext_old _ _ _ hb⟩
  have hA1 : PA (ext own w 50) (w.alloc (.cells #[.pointer (some ⟨p, 0, none⟩), .int .i64 dev] 105)) p rp tp r u.s u.m u.l := PA.step hA hS1 (fun x h => h.elim)
  have hAc := io_Access hA1.u hA1.mm hA1.t (by decide) (by decide) hP.ok hP.el dev a ha 8 (by decide) (by decide) wr
  have HA := Lib.hid hAc
  have HS := Lib.hid hS1
  clear hA hA1 hAc hS1 hP
  go_enter Tryz.func168, Tryz.ntmps168
  go_wp2_with fail
  ((with_reducible refine HA.out.mono ?_); rintro x w2 ⟨rfl, own2, hS2, hU2, hM2, hT2, _⟩)
  have HF := Lib.hid (And.intro ((HS.out.mono (C' := fun x => x ≠ 0 ∧ x < 5) (fun x h => h.elim)).trans (hS2.mono (fun x h => by omega))) (show PAu own2 w2 p rp tp r (accU r dev u a wr) from ⟨hU2, hM2, hT2⟩))
  clear hS2 hU2 hM2 hT2 HA HS
  go_wp2
  go_ret2
  exact ⟨rfl, own2, HF.out⟩
theorem thr_message (hA : PAu own w p rp tp r u) (hP : PU u ms) (a k : Nat) (ha : a < 18446744073709551616) :
    Calls Tryz.prog 169 #[.agg #[.pointer (some ⟨p, 0, none⟩), .int .i64 dev], .int .u64 (a : Int), .int .u64 (k : Int)] w fun x w' => x = .returned (.tuple #[.agg #[.int .i64 (msgT ms dev a k).1, .int .i64 (msgT ms dev a k).2.1], .bool (msgT ms dev a k).2.2]) ∧ ∃ own', Step (fun x => x ≠ 0 ∧ x < 5) own w own' w' ∧ PAu own' w' p rp tp r (msgU ms dev u a k) := by
  have hS1 : Step (fun _ => False) own w (ext own w 50) (w.alloc (.cells #[.pointer (some ⟨p, 0, none⟩), .int .i64 dev] 105)) := ⟨(Upd.refl _ _).alloc _, fun b hb => ext_old _ _ _ hb⟩
  obtain ⟨w1, hw1⟩ : ∃ w1, w.alloc (.cells #[.pointer (some ⟨p, 0, none⟩), .int .i64 dev] 105) = w1 := ⟨_, rfl⟩
  have hS2 : Step (fun _ => False) (ext own w 50) w1 (ext (ext own w 50) w1 50) (w1.alloc (.cells #[.int .i64 0, .int .i64 0] 47)) := ⟨(Upd.refl _ _).alloc _, fun b hb => ext_old _ _ _ hb⟩
  rw [hw1] at hS1
  have hA1 : PA (ext own w 50) w1 p rp tp r u.s u.m u.l := PA.step hA hS1 (fun x h => h.elim)
  have hA2 := hA1.step hS2 (fun x h => h.elim)
  have hMs := io_MsgX hA2.u hA2.mm (by decide) hP.ok hP.rel dev a k ha
  have hsz : w1.heap.size = w.heap.size + 1 := by rw [← hw1, World.size_alloc]
  have hB : Blk (w1.alloc (.cells #[.int .i64 0, .int .i64 0] 47)) (w.heap.size + 1) 47 #[.int .i64 0, .int .i64 0] ∧ ext (ext own w 50) w1 50 (w.heap.size + 1) = 50 := by rw [← hsz]; exact ⟨Blk.new _ _ _, ext_new _ _ _ (Nat.le_refl _)⟩
  have HM := Lib.hid hMs
  have H0 := Lib.hid (And.intro (hS1.trans hS2) (And.intro hA2.t hB))
  subst hw1
  clear hA hA1 hA2 hMs hS1 hS2 hB hsz hP
  go_enter Tryz.func169, Tryz.ntmps169
  go_wp2_with fail
  ((with_reducible refine HM.out.mono ?_); rintro x w2 ⟨rfl, own2, hS2, hU2, hM2⟩)
  obtain ⟨hb, ho⟩ := hS2.blk H0.out.2.2.1 H0.out.2.2.2 (by decide)
  have hT2 := H0.out.2.1.step hS2 (by decide) (by decide)
  have l0 := hb.cell 0
  have l1 := hb.cell 1
  simp only [List.getElem?_toArray, List.getElem?_cons_zero, List.getElem?_cons_succ] at l0 l1
  have g0 := hb.frozen 0
  have g1 := hb.frozen 1
  have hl := hb.lt
  obtain ⟨lb, hlb⟩ : ∃ lb, w.heap.size + 1 = lb := ⟨_, rfl⟩
  rw [hlb] at hb ho l0 l1 g0 g1 hl
  have hU := ((Upd.refl (· = lb) w2).setCell (p := ⟨lb, 0, none⟩) (.inl rfl) (.int .i64 (msgV ms dev a k).1)).setCell (p := ⟨lb, 1, none⟩) (.inl rfl) (.int .i64 (msgV ms dev a k).2)
  have hSs : Step (· = 50) own2 w2 own2 _ := ⟨hU.mono (fun i _ hi => by rw [hi]; exact ho), fun _ _ => rfl⟩
  have hPA : PAu own2 w2 p rp tp r (msgU ms dev u a k) := ⟨hU2, hM2, hT2⟩
  have hPA2 : PAu own2 _ p rp tp r (msgU ms dev u a k) := PA.step hPA hSs (fun x h => by omega)
  have hBl := (hb.set_ 0 (.int .i64 (msgV ms dev a k).1)).set_ 1 (.int .i64 (msgV ms dev a k).2)
  have hfin : Step (fun x => x ≠ 0 ∧ x < 5) own w own2 ((w2.setCell ⟨lb, 0, none⟩ (.int .i64 (msgV ms dev a k).1)).setCell ⟨lb, 1, none⟩ (.int .i64 (msgV ms dev a k).2)) := by
    have h1 : Step (fun x => x ≠ 0 ∧ x < 5) own w own2 w2 := (H0.out.1.mono (fun x h => h.elim)).trans (hS2.mono (fun x h => by omega))
    exact ⟨h1.upd.trans' hU (fun i hi e => by omega), h1.old⟩
  have HF := Lib.hid (And.intro hfin (And.intro hPA2 hBl))
  clear hS2 hU2 hM2 hT2 hb ho hU hSs hPA hPA2 hBl hfin HM H0
  go_wp2
  subst hlb
  refine bodyPost_ret (results_cell_tmp_row rfl _ _ (w.heap.size + 1) 47 #[.int .i64 (msgV ms dev a k).1, .int .i64 (msgV ms dev a k).2] _ rfl HF.out.2.2 Tryz.underlying47 rfl (by kernel_rfl)) rfl ?_
  exact ⟨rfl, own2, HF.out.1, HF.out.2.1⟩
end
end Go.Proofs.YtonhlgfgbdiapaaGreat

/- Both engines behind IOMMUs: what each call does to them. -/
namespace Go.Proofs.YtonhlgfgbdiapaaGreat
set_option linter.unusedVariables false
set_option linter.unusedSimpArgs false
open Go.RowKit
set_option maxRecDepth 100000
section
variable {w0 w w' : World} {own own' : Nat → Nat} {e qe p q rp tp p2 t2 r : Nat} {dev : Int} {s t s' t' : Eg} {a d a' d' : Uv} {ms : List To4}
theorem oA_lt (r : Nat) (dev : Int) (u : Uv) (a : Nat) (wr : Bool) : (accK r dev u a wr).1 < 18446744073709551616 := by
  have : (accK r dev u a wr).1 ≤ 32768 := accA_lt
  omega
theorem vX_eq {r : Nat} {dev : Int} {u : Uv} {s : Eg} (hm : ∀ x, 0 ≤ (u2 r dev u s).m x ∧ (u2 r dev u s).m x < 256) : (rdR 0 8 (u2 r dev u s).m (fA r dev u s : Int) 8).1 = (vX r dev u s : Int) ∧ (vX r dev u s : Int) < 18446744073709551616 := by
  obtain ⟨h0, h1⟩ := rdR_bd 0 8 hm (fA r dev u s : Int)
  have : ((rdR 0 8 (u2 r dev u s).m (fA r dev u s : Int) 8).1.toNat : Int) = (rdR 0 8 (u2 r dev u s).m (fA r dev u s : Int) 8).1 := Int.toNat_of_nonneg h0
  unfold vX
  omega
theorem uSt_ms {r : Nat} {dev : Int} {ms : List To4} {u : Uv} {s : Eg} {i : Nat} (hi : i < 10) : uSt r dev ms u s (i + 10) = msgU ms dev (uSt r dev ms u s i) (s.rg 40) (s.rg 48) := by
  unfold uSt
  rw [if_neg (by omega), if_pos hi, Nat.add_sub_cancel]
theorem atE_lt (o1 o2 : Bool) : atE o1 o2 < 10 := by unfold atE; split <;> (try split) <;> decide
end
end Go.Proofs.YtonhlgfgbdiapaaGreat

/- A memory's copy. -/
namespace Go.Proofs.YtonhlgfgbdiapaaGreat
set_option linter.unusedVariables false
set_option linter.unusedSimpArgs false
open Go.RowKit
set_option maxRecDepth 100000

theorem MemIn.put_frame {K : MK} {own : Nat → Nat} {c p q base g k : Nat} {fs : List (Option Nat)} {m f : Nat → Int} {w w1 : World} {cs : Array Value} (h : MemIn K own c w p q base fs m) (hf : fs[k]? = some none)
    (hU : Upd (fun _ => False) w w1) (hB : Blk w1 g K.tb cs) (hg : w.heap.size ≤ g) (hcs : cs.size = 4096) (hcf : ∀ j, j < 4096 → cs[j]? = some (.int .u8 (f (k * 4096 + j)))) (hbd : ∀ x, 0 ≤ f x ∧ f x < 256) :
    Step (· = c) own w (ext own w c) (w1.setCell ⟨q, k, none⟩ (K.ptr (some g))) ∧ MemIn K (ext own w c) c (w1.setCell ⟨q, k, none⟩ (K.ptr (some g))) p q base (fs.set k (some g)) (fun x => if x / 4096 = k then f x else m x) := by
  have hk : k < fs.length := by
    rcases Nat.lt_or_ge k fs.length with h | h
    · exact h
    · rw [List.getElem?_eq_none h] at hf; cases hf
  have hU1 : Upd (fun b => own b = c) w (w1.setCell ⟨q, k, none⟩ (K.ptr (some g))) := (hU.mono (fun _ _ h => h.elim)).setCell (.inl h.oq) _
  refine ⟨⟨hU1, fun b hb => ext_old _ _ _ hb⟩, ?_⟩
  have h1 : MemIn K (ext own w c) c w1 p q base fs m := h.step (C := fun _ => False) ⟨hU, fun b hb => ext_old _ _ _ hb⟩ (fun h => h)
  have hgq : g ≠ q := hB.ne_ h1.bq K.qb.symm
  refine ⟨?_, h1.op, ?_, h1.oq, fun j b' hj => ?_, fun j hj i hi => ?_, fun i j b hi hj => ?_, fun x => ?_, h.hb, by simpa using h.hn⟩
  · rw [List.length_set]; exact h1.bp.far (h1.bp.ne_ h1.bq K.pq) _
  · have := h1.bq.set_ k (K.ptr (some g))
    have e : ((fs.set k (some g)).map K.ptr).toArray = (fs.map K.ptr).toArray.setIfInBounds k (K.ptr (some g)) := by simp [List.map_set]
    rw [e]; exact this
  · rw [List.getElem?_set] at hj
    split at hj
    · rename_i e
      subst e
      obtain rfl : g = b' := by simpa [hk] using hj
      refine ⟨ext_new _ _ _ hg, cs, hB.far hgq _, hcs, fun i hi => ?_⟩
      show cs[i]? = some (.int .u8 (if (k * 4096 + i) / 4096 = k then f (k * 4096 + i) else m (k * 4096 + i)))
      rw [if_pos (by omega)]; exact hcf i hi
    · rename_i e
      obtain ⟨ho', cs', hb', hs', hc'⟩ := h1.there j b' hj
      refine ⟨ho', cs', hb'.far (hb'.ne_ h1.bq K.qb.symm) _, hs', fun i hi => ?_⟩
      show cs'[i]? = some (.int .u8 (if (j * 4096 + i) / 4096 = k then f (j * 4096 + i) else m (j * 4096 + i)))
      rw [if_neg (by omega)]; exact hc' _ hi
  · rw [List.getElem?_set] at hj
    split at hj
    · rename_i e
      subst e
      simp [hk] at hj
    · show (if (j * 4096 + i) / 4096 = k then f (j * 4096 + i) else m (j * 4096 + i)) = 0
      rw [if_neg (by omega)]; exact h1.gone j hj i hi
  · have hlt : ∀ k b, fs[k]? = some (some b) → b < w.heap.size := fun k b hk => (h.there k b hk).2.lt
    rw [List.getElem?_set] at hi hj
    split at hi <;> split at hj
    · omega
    · have := hlt _ _ hj
      simp [hk] at hi; omega
    · have := hlt _ _ hi
      simp [hk] at hj; omega
    · exact h1.apart _ _ _ hi hj
  · show 0 ≤ (if x / 4096 = k then f x else m x) ∧ (if x / 4096 = k then f x else m x) < 256
    split
    · exact hbd x
    · exact h.bd x
theorem MemIn.cong {K : MK} {own : Nat → Nat} {c p q base : Nat} {fs : List (Option Nat)} {m m' : Nat → Int} {w : World} (h : MemIn K own c w p q base fs m) (he : ∀ x, x / 4096 < fs.length → m' x = m x) (hb : ∀ x, 0 ≤ m' x ∧ m' x < 256) : MemIn K own c w p q base fs m' :=
  { h with
    there := fun k b hk => by
      have hl : k < fs.length := (List.getElem?_eq_some_iff.1 hk).1
      obtain ⟨ho, cs, h1, h2, h3⟩ := h.there k b hk
      exact ⟨ho, cs, h1, h2, fun j hj => by rw [he _ (by omega)]; exact h3 j hj⟩
    gone := fun k hk j hj => by
      have hl : k < fs.length := (List.getElem?_eq_some_iff.1 hk).1
      rw [he _ (by omega)]; exact h.gone k hk j hj
    bd := hb }
theorem info_frame : (Tryz.prog.info? 136).map (·.size) = some 4096 := by kernel_rfl
theorem under_frame : Tryz.prog.underlying 136 = some (.array 4096 5) := by kernel_rfl
set_option maxHeartbeats 4000000 in
theorem ram_Copy {own : Nat → Nat} {c p n d : Nat} {m : Nat → Int} {w : World} (h : MemAt ramK own c w p 0 n m) (hcd : c ≠ d) :
    Calls Tryz.prog 16 #[.pointer (some ⟨p, 0, none⟩)] w fun e w' => ∃ p' own', e = .returned (.pointer (some ⟨p', 0, none⟩)) ∧ Step (fun _ => False) own w own' w' ∧ MemAt ramK own' d w' p' 0 n m := by
  have hn := h.sizes.2
  obtain ⟨q, fs, h, rfl⟩ := h
  have h0 : w.cell? ⟨p, 0, none⟩ = some (.int .u64 0) := h.bp.cell 0
  have h1 : w.cell? ⟨p, 1, none⟩ = some (.slice (some ⟨q, 0, none⟩) fs.length fs.length) := h.bp.cell 1
  have hlp := h.bp.lt
  have HR := Lib.hid h
  have hfr := MemIn.fresh ramK (own := own) (w := w.drew) d 0 fs.length (by omega) hn.1 hn.2
  have HF := Lib.hid hfr
  have hn2 := hn.2
  clear h hfr hn
  go_enter Tryz.func16, Tryz.ntmps16
  go_wp2_with fail
  refine wpE_region (S := fun (W' : World) => W'.cell? ⟨p, 0, none⟩ = some (.int .u64 0) ∧ W'.cell? ⟨p, 1, none⟩ = some (.slice (some ⟨q, 0, none⟩) fs.length fs.length)) (s := 12) (by kernel_rfl) ?_
  have hS : (fun (W' : World) => W'.cell? ⟨p, 0, none⟩ = some (.int .u64 0) ∧ W'.cell? ⟨p, 1, none⟩ = some (.slice (some ⟨q, 0, none⟩) fs.length fs.length)) _ := ⟨h0, h1⟩
  refine wpE_take (i := 0) (oi := { dst := some 7, op := Go.Op.move (Go.Operand.tmp 0), type := 31, pos := "ram.go:119", after := #[], guard := none }) (v := ?_) rfl (by kernel_rfl) (fun _ _ _ h => h) (Or.inl ⟨by rfl, fun W hW => ?_⟩) hS ?_
  rotate_left
  · (obtain ⟨hw1, hw2⟩ := hW); go_simp; (try go_bits); (try rw [if_pos (by omega)]); (try with_reducible rfl)
  (try simp only [Act.put, List.setIfInBounds_toArray, List.set_cons_succ, List.set_cons_zero])
  refine wpE_take (i := 1) (oi := { dst := some 8, op := Go.Op.nilCheck (Go.Operand.tmp 7), type := 0, pos := "ram.go:119", after := #[{ on := 0, ground := Go.Ground.data }], guard := none }) (v := ?_) rfl (by kernel_rfl) (fun _ _ _ h => h) (Or.inl ⟨by rfl, fun W hW => ?_⟩) hS ?_
  rotate_left
  · (obtain ⟨hw1, hw2⟩ := hW); go_simp; (try go_bits); (try rw [if_pos (by omega)]); (try with_reducible rfl)
  (try simp only [Act.put, List.setIfInBounds_toArray, List.set_cons_succ, List.set_cons_zero])
  refine wpE_take (i := 2) (oi := { dst := some 9, op := Go.Op.fieldAddr 133 (Go.Operand.tmp 8) 0, type := 0, pos := "ram.go:119", after := #[{ on := 1, ground := Go.Ground.data }], guard := none }) (v := ?_) rfl (by kernel_rfl) (fun _ _ _ h => h) (Or.inl ⟨by rfl, fun W hW => ?_⟩) hS ?_
  rotate_left
  · (obtain ⟨hw1, hw2⟩ := hW); go_simp; (try go_bits); (try rw [if_pos (by omega)]); (try with_reducible rfl)
  (try simp only [Act.put, List.setIfInBounds_toArray, List.set_cons_succ, List.set_cons_zero])
  refine wpE_take (i := 3) (oi := { dst := some 10, op := Go.Op.load 23 (Go.Operand.tmp 9), type := 23, pos := "ram.go:119", after := #[{ on := 2, ground := Go.Ground.data }], guard := none }) (v := ?_) rfl (by kernel_rfl) (fun _ _ _ h => h) (Or.inl ⟨by rfl, fun W hW => ?_⟩) hS ?_
  rotate_left
  · (obtain ⟨hw1, hw2⟩ := hW); go_simp; (try go_bits); (try rw [if_pos (by omega)]); (try with_reducible rfl)
  (try simp only [Act.put, List.setIfInBounds_toArray, List.set_cons_succ, List.set_cons_zero])
  refine wpE_take (i := 4) (oi := { dst := some 11, op := Go.Op.move (Go.Operand.tmp 0), type := 31, pos := "ram.go:119", after := #[], guard := none }) (v := ?_) rfl (by kernel_rfl) (fun _ _ _ h => h) (Or.inl ⟨by rfl, fun W hW => ?_⟩) hS ?_
  rotate_left
  · (obtain ⟨hw1, hw2⟩ := hW); go_simp; (try go_bits); (try rw [if_pos (by omega)]); (try with_reducible rfl)
  (try simp only [Act.put, List.setIfInBounds_toArray, List.set_cons_succ, List.set_cons_zero])
  refine wpE_take (i := 5) (oi := { dst := some 12, op := Go.Op.nilCheck (Go.Operand.tmp 11), type := 0, pos := "ram.go:119", after := #[{ on := 4, ground := Go.Ground.data }], guard := none }) (v := ?_) rfl (by kernel_rfl) (fun _ _ _ h => h) (Or.inl ⟨by rfl, fun W hW => ?_⟩) hS ?_
  rotate_left
  · (obtain ⟨hw1, hw2⟩ := hW); go_simp; (try go_bits); (try rw [if_pos (by omega)]); (try with_reducible rfl)
  (try simp only [Act.put, List.setIfInBounds_toArray, List.set_cons_succ, List.set_cons_zero])
  refine wpE_take (i := 6) (oi := { dst := some 13, op := Go.Op.fieldAddr 133 (Go.Operand.tmp 12) 1, type := 0, pos := "ram.go:119", after := #[{ on := 5, ground := Go.Ground.data }], guard := none }) (v := ?_) rfl (by kernel_rfl) (fun _ _ _ h => h) (Or.inl ⟨by rfl, fun W hW => ?_⟩) hS ?_
  rotate_left
  · (obtain ⟨hw1, hw2⟩ := hW); go_simp; (try go_bits); (try rw [if_pos (by omega)]); (try with_reducible rfl)
  (try simp only [Act.put, List.setIfInBounds_toArray, List.set_cons_succ, List.set_cons_zero])
  refine wpE_take (i := 7) (oi := { dst := some 14, op := Go.Op.load 131 (Go.Operand.tmp 13), type := 131, pos := "ram.go:119", after := #[{ on := 6, ground := Go.Ground.data }], guard := none }) (v := ?_) rfl (by kernel_rfl) (fun _ _ _ h => h) (Or.inl ⟨by rfl, fun W hW => ?_⟩) hS ?_
  rotate_left
  · (obtain ⟨hw1, hw2⟩ := hW); go_simp; (try go_bits); (try rw [if_pos (by omega)]); (try with_reducible rfl)
  (try simp only [Act.put, List.setIfInBounds_toArray, List.set_cons_succ, List.set_cons_zero])
  refine wpE_take (i := 8) (oi := { dst := some 15, op := Go.Op.call { callee := Go.Callee.builtin Go.Builtin.len, args := #[Go.Operand.tmp 14], argTypes := #[131] }, type := 3, pos := "ram.go:119", after := #[{ on := 7, ground := Go.Ground.data }], guard := none }) (v := ?_) rfl (by kernel_rfl) (fun _ _ _ h => h) (Or.inl ⟨by rfl, fun W hW => ?_⟩) hS ?_
  rotate_left
  · (obtain ⟨hw1, hw2⟩ := hW); go_simp; (try go_bits); (try rw [if_pos (by omega)]); (try with_reducible rfl)
  (try simp only [Act.put, List.setIfInBounds_toArray, List.set_cons_succ, List.set_cons_zero])
  refine wpE_only (i := 9) (oi := { dst := some 16, op := Go.Op.makeSlice 131 (Go.Operand.tmp 15) (Go.Operand.tmp 15), type := 131, pos := "ram.go:119", after := #[{ on := 8, ground := Go.Ground.data }, { on := 8, ground := Go.Ground.data }], guard := none }) rfl (by kernel_rfl) (by rfl) (fun K hK => ?_)
  refine wp_run (exec_make rfl _ _ rfl rfl (framep_make fs.length hn2 _)) ?_
  have hS : (w.drew.alloc (.cells (Array.replicate fs.length (.pointer none)) 134)).cell? ⟨p, 0, none⟩ = some (.int .u64 0) ∧ (w.drew.alloc (.cells (Array.replicate fs.length (.pointer none)) 134)).cell? ⟨p, 1, none⟩ = some (.slice (some ⟨q, 0, none⟩) fs.length fs.length) :=
  ⟨(((Upd.refl (fun _ => False) w.drew).alloc _).cell (p := ⟨p, 0, none⟩) hlp (fun h => h)).trans h0, (((Upd.refl (fun _ => False) w.drew).alloc _).cell (p := ⟨p, 1, none⟩) hlp (fun h => h)).trans h1⟩
  refine hK _ _ hS ?_; clear hK K
  (try simp only [Act.put, List.setIfInBounds_toArray, List.set_cons_succ, List.set_cons_zero])
  refine wpE_take (i := 10) (oi := { dst := some 17, op := Go.Op.build 133 #[(0, Go.Operand.tmp 10), (1, Go.Operand.tmp 16)], type := 133, pos := "ram.go:119", after := #[{ on := 3, ground := Go.Ground.data }, { on := 9, ground := Go.Ground.data }], guard := none }) (v := ?_) rfl (by kernel_rfl) (fun _ _ _ h => h) (Or.inl ⟨by rfl, fun W hW => ?_⟩) hS ?_
  rotate_left
  · (obtain ⟨hw1, hw2⟩ := hW); go_simp; (try go_bits); (try rw [if_pos (by omega)]); (try with_reducible rfl)
  (try simp only [Act.put, List.setIfInBounds_toArray, List.set_cons_succ, List.set_cons_zero])
  refine wpE_only (i := 11) (oi := { dst := some 18, op := Go.Op.box 133 (Go.Operand.tmp 17), type := 31, pos := "ram.go:119", after := #[{ on := 10, ground := Go.Ground.data }], guard := none }) rfl (by kernel_rfl) (by rfl) (fun K hK => ?_)
  go_simp
  have hS : ((w.drew.alloc (.cells (Array.replicate fs.length (.pointer none)) 134)).alloc (.cells #[.int .u64 0, .slice (some ⟨w.heap.size, 0, none⟩) fs.length fs.length] 133)).cell? ⟨p, 0, none⟩ = some (.int .u64 0) ∧ ((w.drew.alloc (.cells (Array.replicate fs.length (.pointer none)) 134)).alloc (.cells #[.int .u64 0, .slice (some ⟨w.heap.size, 0, none⟩) fs.length fs.length] 133)).cell? ⟨p, 1, none⟩ = some (.slice (some ⟨q, 0, none⟩) fs.length fs.length) :=
  ⟨((((Upd.refl (fun _ => False) w.drew).alloc _).alloc _).cell (p := ⟨p, 0, none⟩) hlp (fun h => h)).trans h0, ((((Upd.refl (fun _ => False) w.drew).alloc _).alloc _).cell (p := ⟨p, 1, none⟩) hlp (fun h => h)).trans h1⟩
  refine hK _ _ hS ?_; clear hK K
  (try simp only [Act.put, List.setIfInBounds_toArray, List.set_cons_succ, List.set_cons_zero])
  refine wpE_last (oi := { dst := some 3, op := Go.Op.assign (Go.Operand.tmp 18), type := 31, pos := "ram.go:119", after := #[{ on := 11, ground := Go.Ground.data }, { on := 0, ground := Go.Ground.phase }, { on := 1, ground := Go.Ground.phase }, { on := 2, ground := Go.Ground.phase }, { on := 3, ground := Go.Ground.phase }, { on := 4, ground := Go.Ground.phase }, { on := 5, ground := Go.Ground.phase }, { on := 6, ground := Go.Ground.phase }, { on := 7, ground := Go.Ground.phase }, { on := 8, ground := Go.Ground.phase }, { on := 9, ground := Go.Ground.phase }, { on := 10, ground := Go.Ground.phase }, { on := 11, ground := Go.Ground.phase }], guard := none }) rfl (by kernel_rfl) (by kernel_rfl) (by rfl) (fun K hK => ?_)
  go_simp; (try go_bits); refine hK _ _ ?_; clear hK K
  clear hS
  have HF2 : Hid (Step (fun _ => False) own w.drew (ext own w.drew d) ((w.alloc (.cells (Array.replicate fs.length (.pointer none)) 134)).alloc (.cells #[.int .u64 0, .slice (some ⟨w.heap.size, 0, none⟩) fs.length fs.length] 133)).drew ∧
      MemIn ramK (ext own w.drew d) d ((w.alloc (.cells (Array.replicate fs.length (.pointer none)) 134)).alloc (.cells #[.int .u64 0, .slice (some ⟨w.heap.size, 0, none⟩) fs.length fs.length] 133)).drew (w.heap.size + 1) w.heap.size 0 (List.replicate fs.length none) (fun _ => 0)) := HF
  clear HF
  generalize ((w.alloc (.cells (Array.replicate fs.length (.pointer none)) 134)).alloc (.cells #[.int .u64 0, .slice (some ⟨w.heap.size, 0, none⟩) fs.length fs.length] 133)).drew = w1 at *
  have HF3 := Lib.hid (And.intro (show Step (fun _ => False) own w (ext own w.drew d) w1 from ((Step.refl (fun _ => False) own w).drew).trans HF2.out.1) HF2.out.2)
  clear HF2
  have c1 := (HF3.out.1.upd.cell (p := ⟨p, 1, none⟩) hlp (fun h => h)).trans h1
  clear h0 h1 hlp
  generalize ext own w.drew d = own1 at *
  generalize w.heap.size + 1 = p' at *
  generalize hqq : w.heap.size = q' at *
  have HQ := Lib.hid (Nat.le_of_eq hqq)
  clear hqq
  go_wp2
  go_loopw [24] (fun i wr => ∃ (k : Nat), k ≤ fs.length ∧ i = .int .i64 (k : Int) ∧ Hid (∃ own' fs', Step (fun _ => False) own w own' wr ∧ MemIn ramK own' d wr p' q' 0 fs' (fun x => if x / 4096 < k then m x else 0) ∧ fs'.length = fs.length ∧ ∀ j, k ≤ j → j < fs.length → fs'[j]? = some none)) (fun i _ => fs.length - (intOf i).toNat)
  case atStart =>
    refine ⟨0, by omega, rfl, own1, List.replicate fs.length none, HF3.out.1, ?_, by simp, fun j _ hj => by rw [List.getElem?_replicate, if_pos hj]⟩
    have := HF3.out.2
    simpa using this
  case round =>
    obtain ⟨k, hk, rfl, HL⟩ := hrel
    by_cases hlt : k < fs.length
    · obtain ⟨own2, fs2, hS2, hM2, hl2, hno⟩ := HL.out
      have hR2 := HR.out.step hS2 (fun h => h)
      have hq := hR2.cellq k
      rw [List.getElem?_eq_getElem hlt] at hq
      have cp1 : wr.cell? ⟨p', 1, none⟩ = some (.slice (some ⟨q', 0, none⟩) fs2.length fs2.length) := hM2.bp.cell 1
      rw [hl2] at cp1
      have zq := hM2.bq.frozen k
      have hlq := hM2.bq.lt
      have hlp2 := hM2.bp.lt
      have cq2 : wr.cell? ⟨q', k, none⟩ = some (.pointer none) := by rw [hM2.cellq k, hno k (Nat.le_refl _) hlt]; rfl
      obtain ⟨o, ho⟩ : ∃ o, fs[k] = o := ⟨_, rfl⟩
      rw [ho] at hq
      have hlt' : (k : Int) < (fs.length : Int) := by omega
      have H2 := Lib.hid (And.intro hS2 (And.intro hM2 (And.intro hl2 (And.intro hno hR2))))
      clear hS2 hM2 hl2 hno hR2 HL HF3
      rcases o with _ | b
      · have hq' : wr.cell? ⟨q, k, none⟩ = some (.pointer none) := hq
        have hgone := HR.out.gone k (by rw [List.getElem?_eq_getElem hlt, ho])
        have HGo := Lib.hid hgone
        clear hq hgone
        go_wp2
        refine ⟨⟨k + 1, by omega, by go_num, own2, fs2, H2.out.1, ?_, H2.out.2.2.1, fun j h1 h2 => H2.out.2.2.2.1 j (by omega) h2⟩, by simp [intOf]; omega⟩
        have hfe : (fun x => if x / 4096 < k + 1 then m x else 0) = (fun x => if x / 4096 < k then m x else 0) := by
          funext x
          by_cases h1 : x / 4096 < k
          · rw [if_pos h1, if_pos (by omega)]
          · rw [if_neg h1]
            by_cases h2 : x / 4096 < k + 1
            · rw [if_pos h2]
              have := HGo.out (x % 4096) (Nat.mod_lt _ (by omega))
              rwa [show k * 4096 + x % 4096 = x from by omega] at this
            · rw [if_neg h2]
        rw [hfe]
        exact H2.out.2.1
      · have hq' : wr.cell? ⟨q, k, none⟩ = some (.pointer (some ⟨b, 0, none⟩)) := hq
        obtain ⟨hob, cs, hb, hcs, hcf⟩ := H2.out.2.2.2.2.there k b (by rw [List.getElem?_eq_getElem hlt, ho])
        have h1c : cs.all (·.oneCell') = true := by
          rw [Array.all_eq_true]
          intro i hi
          have := hcf i (by omega)
          rw [Array.getElem?_eq_getElem hi] at this
          rw [Option.some.inj this]; rfl
        have HCF := Lib.hid hcf
        have hbl := hb.lt
        clear hq hcf
        go_wp2_with (first | ((with_reducible show wpList _ _ _ ((⟨some 33, _, _, _, _, _⟩ : Oper) :: _) _ _); refine wpList_load_row rfl 136 _ rfl b rfl 136 cs (0, 0) _ hb under_frame rfl (by rw [info_frame, hcs]) ?_) | ((with_reducible show wpList _ _ _ ((⟨none, _, _, _, _, _⟩ : Oper) :: _) _ _); refine wpList_store_row rfl 136 _ _ rfl wr.heap.size cs rfl rfl 136 _ (heap_alloc_last wr _) (by rw [info_frame, hcs]) (by rw [frame_zeros, size_zeros, hcs]) h1c ?_; rw [World.setRow_alloc_new]))
        have HLQ := Lib.hid hlq
        have hp := H2.out.2.1.put_frame (k := k) (H2.out.2.2.2.1 k (Nat.le_refl _) hlt) ((Upd.refl (fun _ => False) wr).alloc (.cells cs 136)) (Blk.new wr 136 cs) (Nat.le_refl _) hcs (f := m) (fun j hj => HCF.out j hj) HR.out.bd
        refine ⟨⟨k + 1, by omega, by go_num, ext own2 wr d, fs2.set k (some wr.heap.size), ?_, ?_, by simpa using H2.out.2.2.1, fun j h1 h2 => ?_⟩, by simp [intOf]; omega⟩
        · exact ⟨(H2.out.1.upd.setCell (p := ⟨q', k, none⟩) (.inr HQ.out) _).alloc _, fun x hx => (ext_old _ _ _ (Nat.lt_of_lt_of_le hx H2.out.1.upd.size)).trans (H2.out.1.old x hx)⟩
        · have hfe : (fun x => if x / 4096 < k + 1 then m x else 0) = (fun x => if x / 4096 = k then m x else (if x / 4096 < k then m x else 0)) := by
            funext x
            by_cases h1 : x / 4096 = k
            · rw [if_pos h1, if_pos (by omega)]
            · rw [if_neg h1]
              by_cases h2 : x / 4096 < k
              · rw [if_pos h2, if_pos (by omega)]
              · rw [if_neg h2, if_neg (by omega)]
          rw [hfe]
          have h2 := hp.2
          rw [World.setCell_alloc_past _ _ _ _ (by exact HLQ.out)] at h2
          exact h2
        · rw [List.getElem?_set_ne (by omega)]; exact H2.out.2.2.2.1 j (by omega) h2
    · obtain rfl : k = fs.length := by omega
      go_wp2
      go_ret
      obtain ⟨own2, fs2, hS2, hM2, hl2, hno⟩ := HL.out
      exact ⟨p', own2, rfl, hS2, q', fs2, hM2.cong (fun x hx => by rw [hl2] at hx; rw [if_pos hx]) HR.out.bd, hl2⟩
end Go.Proofs.YtonhlgfgbdiapaaGreat

/- EngineBounds: the program's side alone; the cells; the first state. -/
namespace Go.Proofs.YtonhlgfgbdiapaaGreat
set_option linter.unusedVariables false
set_option linter.unusedSimpArgs false
open Go.RowKit
set_option maxRecDepth 100000
structure PB (w0 : World) (own : Nat → Nat) (w : World) (e p rp tp r : Nat) (dev : Int) (s : Eg) (a : Uv) : Prop where
  st : Step (· ≠ 0) (fun _ => 0) w0 own w
  pa : PAu own w p rp tp r a
  ia : PU a []
  eg : EngAt own 60 w e rp (wayT p dev) s
  ok : EgOk s
section
variable {w0 w w' : World} {own own' : Nat → Nat} {e p rp tp r : Nat} {dev : Int} {s s' : Eg} {a a' : Uv}
theorem PB.upd (h : PB w0 own w e p rp tp r dev s a) : Upd (fun _ => False) w0 w := h.st.upd.mono (fun i _ hx => absurd rfl hx)
theorem PB.none_ (h : PB w0 own w e p rp tp r dev s a) (hS : Step (fun _ => False) own w own' w') : PB w0 own' w' e p rp tp r dev s a :=
  ⟨h.st.trans (hS.mono (fun _ h => h.elim)), PA.step h.pa hS (fun x hx => hx.elim), h.ia, h.eg.step hS (fun hx => hx), h.ok⟩
theorem PB.goE (h : PB w0 own w e p rp tp r dev s a) (hS : Step (· = 60) own w own' w') (hE : EngAt own' 60 w' e rp (wayT p dev) s') (hok : EgOk s') : PB w0 own' w' e p rp tp r dev s' a :=
  ⟨h.st.trans (hS.mono (by rintro x rfl; decide)), PA.step h.pa hS (fun x hx => by omega), h.ia, hE, hok⟩
theorem PB.goA (h : PB w0 own w e p rp tp r dev s a) (hS : Step (fun x => x ≠ 0 ∧ x < 5) own w own' w') (hA : PAu own' w' p rp tp r a') (hi : PU a' []) : PB w0 own' w' e p rp tp r dev s a' :=
  ⟨h.st.trans (hS.mono (fun x hx => hx.1)), hA, hi, h.eg.step hS (by omega), h.ok⟩
theorem PB.write (h : PB w0 own w e p rp tp r dev s a) (off : Nat) (hoff : off < 18446744073709551616) (size : Int) (hs : i64B size) (v : Nat) (hv : v < 18446744073709551616) :
    Calls Tryz.prog 11 #[.pointer (some ⟨e, 0, none⟩), .int .u64 (off : Int), .int .i64 size, .int .u64 (v : Int)] w fun x w' => x = .returned (.bool (fitsE off size)) ∧ ∃ own', Step (· = 60) own w own' w' ∧ PB w0 own' w' e p rp tp r dev (writeE s off size v) a := by
  refine (eng_Write h.eg h.ok off hoff size hs.1 hs.2 v hv).mono ?_
  rintro x w' ⟨rfl, hS, hE⟩
  exact ⟨rfl, own, hS, h.goE hS hE (h.ok.write off size v hv)⟩
theorem PB.dst (h : PB w0 own w e p rp tp r dev s a) :
    Calls Tryz.prog 12 #[.pointer (some ⟨e, 0, none⟩), .int .u64 8, .int .i64 8] w fun x w' => x = .returned (.tuple #[.int .u64 (s.rg 8 : Int), .bool true]) ∧ ∃ own', Step (· = 60) own w own' w' ∧ PB w0 own' w' e p rp tp r dev s a := by
  have hr := eng_Read h.eg h.ok 8 (by decide) 8 (by decide) (by decide)
  rw [show readE s 8 8 = s.rg 8 from by simp [readE, fitsE, regE], show fitsE 8 8 = true from by decide, show ((8 : Nat) : Int) = 8 from rfl] at hr
  refine hr.mono ?_
  rintro x w' ⟨rfl, own', hS, hE⟩
  exact ⟨rfl, own', hS, h.goE hS hE h.ok⟩
theorem PB.acc (h : PB w0 own w e p rp tp r dev s a) (d : Nat) (hd : d < 18446744073709551616) (wr : Bool) :
    Calls Tryz.prog 14 #[.pointer (some ⟨p, 0, none⟩), .int .i64 dev, .int .u64 (d : Int), .int .i64 8, .bool wr] w fun x w' => x = .returned (.tuple #[.int .u64 ((accK r dev a d wr).1 : Int), .bool ((accK r dev a d wr).2.1 == 0)]) ∧ ∃ own', Step (fun x => x ≠ 0 ∧ x < 5) own w own' w' ∧ PB w0 own' w' e p rp tp r dev s (accU r dev a d wr) := by
  have hA : PA own w p rp tp r a.s a.m a.l := h.pa
  refine (io_Access hA.u hA.mm hA.t (by decide) (by decide) h.ia.ok h.ia.el dev d hd 8 (by decide) (by decide) wr).mono ?_
  rintro x w' ⟨rfl, own', hS, hU, hM, hT, _⟩
  have hS2 : Step (fun x => x ≠ 0 ∧ x < 5) own w own' w' := hS.mono (fun x hx => by omega)
  exact ⟨rfl, own', hS2, h.goA hS2 ⟨hU, hM, hT⟩ (h.ia.acc r dev d wr)⟩
def nextU (a : Uv) : Uv := ⟨nextS a.s, a.m, a.l⟩
theorem PB.next (h : PB w0 own w e p rp tp r dev s a) :
    Calls Tryz.prog 15 #[.pointer (some ⟨p, 0, none⟩)] w fun x w' => (∃ v, x = .returned v) ∧ ∃ own', Step (fun x => x ≠ 0 ∧ x < 5) own w own' w' ∧ PB w0 own' w' e p rp tp r dev s (nextU a) := by
  have hA : PA own w p rp tp r a.s a.m a.l := h.pa
  cases hn : nextOk a.s with
  | false =>
    refine (io_Next_none hA.u hA.mm hn).mono ?_
    rintro x w' ⟨rfl, own', hS, hU, hM⟩
    have he : nextU a = a := by unfold nextU nextS; rw [if_neg (by rw [hn]; decide)]
    rw [he]
    exact ⟨⟨_, rfl⟩, own', hS.mono (fun _ h => h.elim), h.none_ hS⟩
  | true =>
    refine (io_Next hA.u hA.mm (by decide) h.ia.ok hn).mono ?_
    rintro x w' ⟨rfl, own', hS, hU, hM⟩
    have hS2 : Step (fun x => x ≠ 0 ∧ x < 5) own w own' w' := hS.mono (by rintro x rfl; decide)
    exact ⟨⟨_, rfl⟩, own', hS2, h.goA hS2 ⟨hU, hM, hA.t.step hS (by decide) (by decide)⟩ (PI.next h.ia)⟩
theorem PB.stepE (ms : List To4) (hms0 : ms = []) (h : PB w0 own w e p rp tp r dev s a) :
    Calls Tryz.prog 17 #[.pointer (some ⟨e, 0, none⟩)] w fun x w' => x = .returned (.tuple #[.agg #[.int .i64 (stepT r dev ms a s).1, .int .i64 (stepT r dev ms a s).2.1], .bool (stepT r dev ms a s).2.2]) ∧ ∃ own', Step (fun x => x = 60 ∨ (x ≠ 0 ∧ x < 5)) own w own' w' ∧ PB w0 own' w' e p rp tp r dev (stepX r dev a s) (stepU r dev ms a s) := by
  have hP : PU a ms := by rw [hms0]; exact h.ia
  have key := eng_StepG (c := 60) (V := fun i own w => PAu own w p rp tp r (uSt r dev ms a s i)) (C := fun x => x ≠ 0 ∧ x < 5) (o1 := oA r dev a s) (o2 := oB r dev a s) (f1 := fA r dev a s) (f2 := fB r dev a s) (v := vX r dev a s) (R := fun _ => msgT ms dev (s.rg 40) (s.rg 48)) (ac := 168) (ms := 169) h.eg h.ok
    (fun hs => {
      m1 := thr_m1 p dev, m2 := thr_m2 p dev, c1 := thr_c1, c2 := thr_c2, hC := by omega
      hV := fun i own w own' w' hm hS => PA.step hm hS (fun x hx => by omega)
      b1 := oA_lt _ _ _ _ _, b2 := oA_lt _ _ _ _ _
      bv := by
        have hb : ∀ x, 0 ≤ (u2 r dev a s).m x ∧ (u2 r dev a s).m x < 256 := by
          have hm := h.pa.mm.bd
          have hrec : ∀ (u : Uv) (ad : Nat) (wr : Bool), (∀ x, 0 ≤ u.m x ∧ u.m x < 256) → ∀ x, 0 ≤ (accU r dev u ad wr).m x ∧ (accU r dev u ad wr).m x < 256 := fun u ad wr hu => accMt_bd hu _ _ _
          exact hrec _ _ _ (hrec _ _ _ hm)
        have := (vX_eq hb).2
        omega
      A1 := fun own w hm => by
        refine (thr_access hm hP (plA s) (by unfold plA; omega) false).mono ?_
        rintro x w' ⟨rfl, own', hS, hA⟩
        exact ⟨rfl, own', hS, hA⟩
      A2 := fun _ own w hm => by
        refine (thr_access (ms := ms) hm (hP.st r dev s 1) (plB s) (by unfold plB; omega) true).mono ?_
        rintro x w' ⟨rfl, own', hS, hA⟩
        exact ⟨rfl, own', hS, hA⟩
      rd := fun o1 o2 own w hm => by
        have hm2 : PA own w p rp tp r (u2 r dev a s).s (u2 r dev a s).m (u2 r dev a s).l := hm
        have hb := (oA_lt r dev a (plA s) false)
        refine (ram_Read hm2.mm (fA r dev a s : Int) 8 (by omega) (by unfold fA; omega) (by decide) (by decide)).mono ?_
        rintro x w' ⟨rfl, k, rfl⟩
        exact ⟨_, by rw [(vX_eq hm2.mm.bd).1], own, (Step.refl _ _ _).drewN k, PA.step hm ((Step.refl (fun _ => False) _ _).drewN k) (fun x h => h.elim)⟩
      wr := fun o1 o2 own w hm => by
        have hm2 : PA own w p rp tp r (u2 r dev a s).s (u2 r dev a s).m (u2 r dev a s).l := hm
        have hb := (oA_lt r dev (u1 r dev a s) (plB s) true)
        refine (ram_Write hm2.mm (fB r dev a s : Int) 8 (vX r dev a s : Int) (by omega) (by unfold fB; omega) (by decide) (by decide) (by omega) (vX_eq hm2.mm.bd).2).mono ?_
        rintro x w' ⟨rfl, own', hS, hM⟩
        exact ⟨_, rfl, own', hS.mono (by rintro x rfl; decide), hm2.u.step hS (by decide), hM, hm2.t.step hS (by decide) (by decide)⟩
      ms := fun i hi own w hm => by
        have hl := atE_lt (oA r dev a s) (oB r dev a s)
        refine (thr_message (ms := ms) hm (hP.st r dev s i) (s.rg 40) (s.rg 48) (h.ok.rg _)).mono ?_
        rintro x w' ⟨rfl, own', hS, hA⟩
        refine ⟨rfl, own', hS, ?_⟩
        show PAu own' w' p rp tp r (uSt r dev ms a s (i + 10))
        rw [uSt_ms (by omega)]; exact hA }) (fun i own w own' w' hm hS => PA.step hm hS (fun x hx => by omega)) h.pa
  refine key.mono ?_
  rintro x w' ⟨rfl, own', hS, hE, hm⟩
  have hS2 : Step (fun x => x ≠ 0 ∧ x ≠ 50) own w own' w' := hS.mono (fun x hx => by omega)
  exact ⟨rfl, own', hS, h.st.trans (hS2.mono (fun x hx => hx.1)), hm, (by rw [← hms0]; exact hP.st r dev s _), hE, h.ok.next _ _⟩
end
theorem writeE_cp {s : Eg} (h : s.cp = 0) (off : Nat) (size : Int) (v : Nat) : (writeE s off size v).cp = 0 := by
  unfold writeE cmdE putE
  repeat' split
  all_goals first | exact h | rfl
/-- a cell of a table that names only what is below frame 7 -/
def lowv (v : Nat) : Nat := if v &&& 10 = 0 ∧ 6 < v / 1024 % 17592186044416 then v - v / 1024 % 17592186044416 * 1024 else v
def lowC (x : Int × Nat) : Int × Nat := (x.1 % 3584, lowv x.2)
theorem lowv_lt {v : Nat} (h : v < 18446744073709551616) : lowv v < 18446744073709551616 := by unfold lowv; split <;> omega
theorem lowv_ok {v : Nat} (hf : leafE (lowv v) = false) : nxtE (lowv v) < 7 := by
  unfold lowv at hf ⊢
  unfold nxtE
  split
  · omega
  · rename_i h
    rw [if_neg h] at hf
    have h10 : v &&& 10 = 0 := by unfold leafE at hf; simpa using hf
    have : ¬ 6 < v / 1024 % 17592186044416 := fun h6 => h ⟨h10, h6⟩
    omega
theorem low_zero : LowT (fun _ => 0) := by
  intro t i ht hi hf
  have h0 : ent (fun _ => 0) t i = 0 := by
    unfold ent
    have : ∀ (n o : Nat), num (fun _ => (0 : Int)) o n = 0 := by
      intro n
      induction n with
      | zero => intro o; rfl
      | succ n ih => intro o; rw [num_snoc, ih]; simp
    rw [this]; rfl
  rw [h0]
  decide
theorem low_cell {m : Nat → Int} (hm : LowT m) (x : Int × Nat) (hx : x.2 < 18446744073709551616) : LowT (cellM 8 m (lowC x)) := by
  intro t i ht hi hf
  have h0 := Int.emod_nonneg x.1 (show (3584 : Int) ≠ 0 by decide)
  have h1 := Int.emod_lt_of_pos x.1 (show (0 : Int) < 3584 by decide)
  obtain ⟨j, hj⟩ := Int.eq_ofNat_of_zero_le h0
  have hc : cellM 8 m (lowC x) = put m (8 * j) 8 (lowv x.2 : Int) := by
    unfold cellM lowC
    show put m (8 * ((x.1 % 3584) % ((512 * 8 : Nat) : Int)).toNat) 8 _ = _
    rw [hj, show ((j : Int) % ((512 * 8 : Nat) : Int)).toNat = j by omega]
  rw [hc] at hf ⊢
  by_cases he : 512 * t + i = j
  · have hent : ent (put m (8 * j) 8 (lowv x.2 : Int)) t i = lowv x.2 := by
      unfold ent
      rw [show t * 4096 + 8 * i = 8 * j by omega, num_put]
      have := lowv_lt hx
      rw [show (256 : Int) ^ 8 = 18446744073709551616 from rfl]
      omega
    rw [hent] at hf ⊢
    exact lowv_ok hf
  · have hent : ent (put m (8 * j) 8 (lowv x.2 : Int)) t i = ent m t i := by
      unfold ent
      rw [num_put_far _ _ _ _ _ _ (by omega)]
    rw [hent] at hf ⊢
    exact hm t i ht hi hf
theorem low_cells : ∀ (cs : List (Int × Nat)) (m : Nat → Int), LowT m → (∀ x ∈ cs, x.2 < 18446744073709551616) → LowT (cellsM 8 m (cs.map lowC)) := by
  intro cs
  induction cs with
  | nil => intro m hm _; exact hm
  | cons x cs ih =>
    intro m hm hb
    exact ih (cellM 8 m (lowC x)) (low_cell hm x (hb x (by simp))) (fun y hy => hb y (by simp [hy]))
/-- the first state -/
def sB (root : Nat) : Us := setSA (ringS 8 us0 28672) 3 root
theorem sB_ring : ringS 8 us0 28672 = usRg us0 28672 := if_pos (by decide)
theorem sB_rg (root : Nat) (m : Nat → Int) (l : List Tr) : RgU ⟨sB root, m, l⟩ root := by
  unfold sB setSA
  rw [sB_ring]
  by_cases hr : root = 0
  · rw [if_neg (fun h => h.2 hr)]
    subst hr
    exact ⟨rfl, fun d => by show (0 : Nat) = _; split <;> rfl⟩
  · rw [if_pos ⟨by decide, hr⟩]
    exact ⟨rfl, fun d => rfl⟩
theorem sB_sd {root : Nat} (hr : root < 7) {m : Nat → Int} (hb : ∀ x, 0 ≤ m x ∧ m x < 256) (hl : LowT m) : SdU ⟨sB root, m, []⟩ root := ⟨sB_rg root m [], hr, hb, hl, fun t ht => by cases ht⟩
theorem sB_pu (root : Nat) (hr : root < 18446744073709551616) (m : Nat → Int) : PU ⟨sB root, m, []⟩ [] :=
  PI.set (PI.ring (show PI us0 [] [] from ⟨UsOk.init 8, fun t ht => (by cases ht), List.Pairwise.nil, MsRel.init⟩) 28672 (by decide)) 3 root hr
theorem SdU.nextU {u : Uv} {root : Nat} (h : SdU u root) : SdU (nextU u) root := h.next
def cellC (x : Int × Nat) : List Value := [.int .i64 x.1, .int .u64 (x.2 : Int)]
def cellsC (l : List (Int × Nat)) : List Value := l.flatMap cellC
theorem cellsC_snoc (l : List (Int × Nat)) (x : Int × Nat) : cellsC (l ++ [x]) = cellsC l ++ cellC x := by simp [cellsC]
theorem cellsC_at : ∀ (l : List (Int × Nat)) (k : Nat) (x : Int × Nat), l[k]? = some x → (cellsC l)[k * 2]? = some (.int .i64 x.1) ∧ (cellsC l)[k * 2 + 1]? = some (.int .u64 (x.2 : Int)) := by
  intro l
  induction l with
  | nil => intro k t h; cases h
  | cons y l ih =>
    intro k t h
    cases k with
    | zero =>
      simp at h; subst h
      exact ⟨rfl, rfl⟩
    | succ k =>
      have hk := ih k t (by simpa using h)
      have e : ∀ j, (cellsC (y :: l))[(k + 1) * 2 + j]? = (cellsC l)[k * 2 + j]? := by
        intro j
        show (cellC y ++ cellsC l)[(k + 1) * 2 + j]? = _
        rw [List.getElem?_append_right (by simp [cellC]; omega)]
        congr 1
        simp [cellC]; omega
      exact ⟨(e 0).trans hk.1, (e 1).trans hk.2⟩
theorem CellsAt.of_rw {own : Nat → Nat} {d : Nat} {w : World} {v : Value} {cs : List (Int × Nat)} (h : Rw 26 2 own d w v cs.length (cellsC cs)) : CellsAt w v cs := by
  obtain ⟨A, cap, hv, _, hf⟩ := h.form
  refine ⟨A, cap, hv, fun hl => ?_⟩
  obtain ⟨g, o, hA, _, hg, _, hc⟩ := hf hl
  refine ⟨g, o, hA, hg, fun k x hx => ?_⟩
  obtain ⟨h1, h2⟩ := cellsC_at cs k x hx
  have e1 := hc _ _ h1
  have e2 := hc _ _ h2
  rw [← Nat.add_assoc] at e2
  exact ⟨e1, e2⟩
theorem cell_parts : ∃ (i : TypeInfo) (z : Value), Tryz.prog.info? 26 = some i ∧ i.zero = some z ∧ i.size = 2 ∧ i.bytes = 16 ∧ z.cells.size = 2 := by
  have h : (Tryz.prog.info? 26).map (fun i => (i.zero, i.size, i.bytes)) = some (some (.agg #[.int .i64 0, .int .u64 0]), 2, 16) := by kernel_rfl
  obtain ⟨i, hi, hz, hs, hb⟩ := info_parts h
  exact ⟨i, _, hi, hz, hs, hb, rfl⟩
theorem cells_new2 (w : World) (t : TypeId) (a b : Value) : ∀ j u, [a, b][j]? = some u → (w.alloc (.cells #[a, b] t)).cell? ((⟨w.heap.size, 0, none⟩ : Addr).add j) = some u := by
  intro j u h
  rw [show (⟨w.heap.size, 0, none⟩ : Addr).add j = ⟨w.heap.size, j, none⟩ from by unfold Addr.add; split <;> simp_all, (Blk.new w t #[a, b]).cell]
  simpa using h
theorem and10_u (v : Nat) (h : v < 18446744073709551616) : (bits .and .u64 (v : Int) 10 == 0) = decide (v &&& 10 = 0) := by
  rw [show (10 : Int) = ((10 : Nat) : Int) from rfl, u64_and_nat _ _ h (by decide)]
  rcases Nat.eq_zero_or_pos (v &&& 10) with h | h
  · rw [h]; rfl
  · have h1 : (((v &&& 10 : Nat) : Int) == 0) = false := by simp; omega
    rw [h1, decide_eq_false (by omega)]
theorem and44_u (v : Nat) (h : v < 18446744073709551616) : bits .and .u64 ((v : Int) / 1024) 17592186044415 = ((v / 1024 % 17592186044416 : Nat) : Int) := nxt_g v h
theorem and_mid (v : Nat) (hv : v < 18446744073709551616) : v &&& 18428729675200070655 = v / 18014398509481984 * 18014398509481984 + v % 1024 := by
  apply Nat.eq_of_testBit_eq
  intro j
  rw [Nat.testBit_and]
  have hm : (18428729675200070655 : Nat) = 2 ^ 54 * (2 ^ 10 - 1) + (2 ^ 10 - 1) := by decide
  have hr : v / 18014398509481984 * 18014398509481984 + v % 1024 = 2 ^ 54 * (v / 2 ^ 54) + v % 2 ^ 10 := by omega
  rw [hm, hr, Nat.testBit_two_pow_mul_add _ (by decide), Nat.testBit_two_pow_mul_add _ (Nat.lt_of_lt_of_le (Nat.mod_lt _ (by decide)) (by decide))]
  by_cases hj : j < 54
  · rw [if_pos hj, if_pos hj, Nat.testBit_two_pow_sub_one, Nat.testBit_mod_two_pow, Bool.and_comm]
  · rw [if_neg hj, if_neg hj, Nat.testBit_two_pow_sub_one, Nat.testBit_div_two_pow, show j - 54 + 54 = j by omega]
    by_cases h64 : j < 64
    · rw [decide_eq_true (by omega), Bool.and_true]
    · rw [Nat.testBit_lt_two_pow (Nat.lt_of_lt_of_le hv (by rw [show 18446744073709551616 = 2 ^ 64 from rfl]; exact Nat.pow_le_pow_right (by decide) (by omega))), Bool.false_and]
theorem andNot_mid (v : Nat) (hv : v < 18446744073709551616) : bits .andNot .u64 (v : Int) 18014398509480960 = ((v - v / 1024 % 17592186044416 * 1024 : Nat) : Int) := by
  rw [show (18014398509480960 : Int) = ((18014398509480960 : Nat) : Int) from rfl, u64_andNot_nat _ _ hv (by decide)]
  rw [show 18446744073709551615 - 18014398509480960 = 18428729675200070655 from rfl, and_mid v hv]
  omega
end Go.Proofs.YtonhlgfgbdiapaaGreat
