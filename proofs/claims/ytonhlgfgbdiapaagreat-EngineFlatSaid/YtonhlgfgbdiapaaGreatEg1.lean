import Derived.Test.YtonhlgfgbdiapaaGreatEgP
import Derived.Test.YtonhlgfgbdiapaaGreatMap
/- The engine: its cells; what tells its registers. -/
namespace Go.Proofs.YtonhlgfgbdiapaaGreat
set_option linter.unusedVariables false
set_option linter.unusedSimpArgs false
open Go.RowKit Go.Maps
set_option maxRecDepth 100000

def encU (k : Nat) : Value := .int .u64 (k : Int)
theorem encU_inj : ∀ x y, encU x = encU y → x = y := by intro x y h; unfold encU at h; injection h with _ h; omega
theorem keyU : Keyed Tryz.prog 23 := int_keyed Tryz.underlying23
theorem keyU_mk (k : Nat) (hk : k < 18446744073709551616) : keyOf Tryz.prog 23 (encU k) = some (.int .u64 (k : Int)) :=
  keyOf_int_mk Tryz.underlying23 (by simp [Lit.wf, IntKind.min, IntKind.max, IntKind.signed, IntKind.bits]; omega)
theorem zeroU (w : World) : (zeroValue 23).run Tryz.prog w = .ok (.int .u64 0) w := by kernel_rfl
/-- the registers' map -/
def RegAt (own : Nat → Nat) (c : Nat) (w : World) (rb : Nat) (rg : Nat → Nat) : Prop :=
  own rb = c ∧ ∃ kv : List (Nat × Value), MapB Tryz.prog 23 encU w rb kv ∧ ∀ k, (kvGet kv k).getD (.int .u64 0) = .int .u64 (rg k : Int)
/-- what tells the registers, when it was made -/
def bmE (f e : Nat) : Value := .func (.func f) #[.pointer (some ⟨e, 0, none⟩)] #[]
def rdsL (e : Nat) : List (Nat × Value) := [(0, bmE 38 e), (8, bmE 39 e), (16, bmE 41 e), (24, bmE 62 e), (32, bmE 63 e), (40, bmE 42 e), (48, bmE 43 e)]
def egC (mp : Nat) (way : Value) (rb st cp : Nat) (dn : Int) (rd : Value) : Array Value := #[.pointer (some ⟨mp, 0, none⟩), way, .map (some rb), .int .u64 (st : Int), .int .u64 (cp : Int), .int .u32 dn, .int .i32 0, .int .u32 0, rd]
/-- its reads: not made yet, or made -/
def RdsAt (own : Nat → Nat) (c : Nat) (w : World) (e rb : Nat) (dn : Int) (rd : Value) : Prop :=
  (dn = 0 ∧ rd = .map none) ∨ (dn = 1 ∧ ∃ fb, rd = .map (some fb) ∧ fb ≠ rb ∧ own fb = c ∧ MapB Tryz.prog 23 encU w fb (rdsL e))
def EngAt (own : Nat → Nat) (c : Nat) (w : World) (e mp : Nat) (way : Value) (s : Eg) : Prop :=
  ∃ rb dn rd, Blk w e 123 (egC mp way rb s.st s.cp dn rd) ∧ own e = c ∧ RegAt own c w rb s.rg ∧ RdsAt own c w e rb dn rd
section
variable {own own' : Nat → Nat} {c e mp rb b : Nat} {way rd : Value} {w w' : World} {s s' : Eg} {rg : Nat → Nat} {dn : Int}
theorem Blk.ne_map {ty : TypeId} {cs : Array Value} {kv : List (Nat × Value)} (h : Blk w e ty cs) (hm : MapB Tryz.prog 23 encU w b kv) : b ≠ e := by
  rintro rfl
  obtain ⟨es, clock, hb, _⟩ := hm
  unfold Blk at h
  rw [h] at hb
  cases hb
theorem RegAt.step {C : Nat → Prop} (h : RegAt own c w rb rg) (hS : Step C own w own' w') (hc : ¬ C c) : RegAt own' c w' rb rg := by
  obtain ⟨ho, kv, hm, hk⟩ := h
  obtain ⟨h1, h2⟩ := hm.step ho hS hc
  exact ⟨h2, kv, h1, hk⟩
theorem RdsAt.step {C : Nat → Prop} (h : RdsAt own c w e rb dn rd) (hS : Step C own w own' w') (hc : ¬ C c) : RdsAt own' c w' e rb dn rd := by
  rcases h with h | ⟨h1, fb, h2, h3, ho, hm⟩
  · exact .inl h
  · obtain ⟨h4, h5⟩ := hm.step ho hS hc
    exact .inr ⟨h1, fb, h2, h3, h5, h4⟩
theorem EngAt.step {C : Nat → Prop} (h : EngAt own c w e mp way s) (hS : Step C own w own' w') (hc : ¬ C c) : EngAt own' c w' e mp way s := by
  obtain ⟨rb, dn, rd, hb, ho, hr, hd⟩ := h
  obtain ⟨h1, h2⟩ := hS.blk hb ho hc
  exact ⟨rb, dn, rd, h1, h2, hr.step hS hc, hd.step hS hc⟩
/-- a cell of its own is written -/
theorem EngAt.put (h : EngAt own c w e mp way s) (j : Nat) (x : Value) (he : ∀ rb dn rd, egC mp way rb s'.st s'.cp dn rd = (egC mp way rb s.st s.cp dn rd).setIfInBounds j x) (hrg : s'.rg = s.rg) :
    Step (· = c) own w own (w.setCell ⟨e, j, none⟩ x) ∧ EngAt own c (w.setCell ⟨e, j, none⟩ x) e mp way s' := by
  obtain ⟨rb, dn, rd, hb, ho, ⟨hro, kv, hm, hk⟩, hd⟩ := h
  have hU : Upd (· = e) w (w.setCell ⟨e, j, none⟩ x) := (Upd.refl (· = e) w).setCell (p := ⟨e, j, none⟩) (.inl rfl) _
  refine ⟨⟨hU.mono (fun i _ h => by rw [h]; exact ho), fun _ _ => rfl⟩, rb, dn, rd, by rw [he]; exact hb.set_ j x, ho, ⟨hro, kv, hm.upd hU (hb.ne_map hm), by rw [hrg]; exact hk⟩, ?_⟩
  rcases hd with h | ⟨h1, fb, h2, h3, hfo, hfm⟩
  · exact .inl h
  · exact .inr ⟨h1, fb, h2, h3, hfo, hfm.upd hU (hb.ne_map hfm)⟩
theorem EngAt.cells (h : EngAt own c w e mp way s) : w.cell? ⟨e, 0, none⟩ = some (.pointer (some ⟨mp, 0, none⟩)) ∧ w.cell? ⟨e, 1, none⟩ = some way ∧ w.cell? ⟨e, 3, none⟩ = some (.int .u64 (s.st : Int)) ∧ w.cell? ⟨e, 4, none⟩ = some (.int .u64 (s.cp : Int)) ∧ w.frozen? ⟨e, 3, none⟩ = false ∧ w.frozen? ⟨e, 4, none⟩ = false ∧ e < w.heap.size := by
  obtain ⟨rb, dn, rd, hb, _⟩ := h
  exact ⟨hb.cell 0, hb.cell 1, hb.cell 3, hb.cell 4, hb.frozen 3, hb.frozen 4, hb.lt⟩
/-- a look at a register -/
theorem RegAt.look (h : RegAt own c w rb rg) (k : Nat) (hk : k < 18446744073709551616) (kI : Int) (hkI : kI = (k : Int)) :
    (Instr.lookup 106 (.map (some rb)) (.int .u64 kI) false).run Tryz.prog w = .ok (.int .u64 (rg k : Int)) w := by
  obtain ⟨_, kv, hm, hkv⟩ := h
  have := hm.look keyU encU_inj Tryz.underlying106 (zeroU w) (keyU_mk k hk) false
  rw [if_neg (by decide), hkv k] at this
  rw [hkI]
  exact this
theorem EngAt.reg (h : EngAt own c w e mp way s) : ∃ rb, w.cell? ⟨e, 2, none⟩ = some (.map (some rb)) ∧ RegAt own c w rb s.rg := by
  obtain ⟨rb, dn, rd, hb, _, hr, _⟩ := h
  exact ⟨rb, hb.cell 2, hr⟩
theorem eng_src (h : EngAt own c w e mp way s) : Calls Tryz.prog 38 #[.pointer (some ⟨e, 0, none⟩)] w fun x w' => x = .returned (.int .u64 (s.rg 0 : Int)) ∧ w = w' := by
  obtain ⟨rb, h2, hr⟩ := h.reg
  have hl := hr.look 0 (by decide) 0 rfl
  have hlt := h.cells.2.2.2.2.2.2
  clear h hr
  go_enter Tryz.func38, Tryz.ntmps38
  go_wp2
  go_ret
  exact ⟨rfl, rfl⟩
theorem eng_dst (h : EngAt own c w e mp way s) : Calls Tryz.prog 39 #[.pointer (some ⟨e, 0, none⟩)] w fun x w' => x = .returned (.int .u64 (s.rg 8 : Int)) ∧ w = w' := by
  obtain ⟨rb, h2, hr⟩ := h.reg
  have hl := hr.look 8 (by decide) 8 rfl
  have hlt := h.cells.2.2.2.2.2.2
  clear h hr
  go_enter Tryz.func39, Tryz.ntmps39
  go_wp2
  go_ret
  exact ⟨rfl, rfl⟩
theorem eng_len (h : EngAt own c w e mp way s) : Calls Tryz.prog 41 #[.pointer (some ⟨e, 0, none⟩)] w fun x w' => x = .returned (.int .u64 (s.rg 16 : Int)) ∧ w = w' := by
  obtain ⟨rb, h2, hr⟩ := h.reg
  have hl := hr.look 16 (by decide) 16 rfl
  have hlt := h.cells.2.2.2.2.2.2
  clear h hr
  go_enter Tryz.func41, Tryz.ntmps41
  go_wp2
  go_ret
  exact ⟨rfl, rfl⟩
theorem eng_msi (h : EngAt own c w e mp way s) : Calls Tryz.prog 42 #[.pointer (some ⟨e, 0, none⟩)] w fun x w' => x = .returned (.int .u64 (s.rg 40 : Int)) ∧ w = w' := by
  obtain ⟨rb, h2, hr⟩ := h.reg
  have hl := hr.look 40 (by decide) 40 rfl
  have hlt := h.cells.2.2.2.2.2.2
  clear h hr
  go_enter Tryz.func42, Tryz.ntmps42
  go_wp2
  go_ret
  exact ⟨rfl, rfl⟩
theorem eng_data (h : EngAt own c w e mp way s) : Calls Tryz.prog 43 #[.pointer (some ⟨e, 0, none⟩)] w fun x w' => x = .returned (.int .u64 (s.rg 48 : Int)) ∧ w = w' := by
  obtain ⟨rb, h2, hr⟩ := h.reg
  have hl := hr.look 48 (by decide) 48 rfl
  have hlt := h.cells.2.2.2.2.2.2
  clear h hr
  go_enter Tryz.func43, Tryz.ntmps43
  go_wp2
  go_ret
  exact ⟨rfl, rfl⟩
theorem eng_control (w : World) : Calls Tryz.prog 62 #[.pointer (some ⟨e, 0, none⟩)] w fun x w' => x = .returned (.int .u64 0) ∧ w = w' := by
  go_enter Tryz.func62, Tryz.ntmps62
  go_wp2
  go_ret
  exact ⟨rfl, rfl⟩
theorem eng_status (h : EngAt own c w e mp way s) : Calls Tryz.prog 63 #[.pointer (some ⟨e, 0, none⟩)] w fun x w' => x = .returned (.int .u64 (s.st : Int)) ∧ w = w' := by
  obtain ⟨_, _, h3, _, _, _, hlt⟩ := h.cells
  clear h
  go_enter Tryz.func63, Tryz.ntmps63
  go_wp2
  go_ret
  exact ⟨rfl, rfl⟩
theorem eng_Busy (h : EngAt own c w e mp way s) : Calls Tryz.prog 13 #[.pointer (some ⟨e, 0, none⟩)] w fun x w' => x = .returned (.bool (decide (s.st = 1))) ∧ w = w' := by
  obtain ⟨_, _, h3, _, _, _, hlt⟩ := h.cells
  have hb : ((s.st : Int) == 1) = decide (s.st = 1) := by
    by_cases h : s.st = 1
    · rw [decide_eq_true h, h]; rfl
    · rw [decide_eq_false h]; simp; omega
  clear h
  go_enter Tryz.func13, Tryz.ntmps13
  go_wp2
  go_ret
  exact ⟨rfl, rfl⟩
theorem eng_fits (off : Nat) (hoff : off < 18446744073709551616) (size : Int) (hs0 : -9223372036854775808 ≤ size) (hs1 : size ≤ 9223372036854775807) (w : World) :
    Calls Tryz.prog 31 #[.int .u64 (off : Int), .int .i64 size] w fun x w' => x = .returned (.bool (fitsE off size)) ∧ w = w' := by
  by_cases h4 : size = 4
  · subst h4
    by_cases hm : (off : Int) % 4 = 0
    · have hm2 : ((off : Int) % 4 == 0) = true := by simpa using hm
      have hf : fitsE off 4 = decide ((off : Int) < 56) := by unfold fitsE; rw [hm2]; simp; omega
      rw [hf]
      clear hf
      go_enter Tryz.func31, Tryz.ntmps31
      go_wp2
      go_ret
      exact ⟨rfl, rfl⟩
    · have hm2 : ((off : Int) % 4 == 0) = false := by simpa using hm
      have hf : fitsE off 4 = false := by unfold fitsE; rw [hm2]; simp
      rw [hf]
      clear hf
      go_enter Tryz.func31, Tryz.ntmps31
      go_wp2
      go_ret
      exact ⟨rfl, rfl⟩
  · have h4b : (size == 4) = false := by simpa using h4
    by_cases h8 : size = 8
    · subst h8
      by_cases hm : (off : Int) % 8 = 0
      · have hm2 : ((off : Int) % 8 == 0) = true := by simpa using hm
        have hf : fitsE off 8 = decide ((off : Int) < 56) := by unfold fitsE; rw [hm2]; simp; omega
        rw [hf]
        clear hf
        go_enter Tryz.func31, Tryz.ntmps31
        go_wp2
        go_ret
        exact ⟨rfl, rfl⟩
      · have hm2 : ((off : Int) % 8 == 0) = false := by simpa using hm
        have hf : fitsE off 8 = false := by unfold fitsE; rw [hm2]; simp
        rw [hf]
        clear hf
        go_enter Tryz.func31, Tryz.ntmps31
        go_wp2
        go_ret
        exact ⟨rfl, rfl⟩
    · have h8b : (size == 8) = false := by simpa using h8
      have hf : fitsE off size = false := by unfold fitsE; rw [h4b, h8b]; rfl
      rw [hf]
      clear hf
      go_enter Tryz.func31, Tryz.ntmps31
      go_wp2
      go_ret
      exact ⟨rfl, rfl⟩
end
end Go.Proofs.YtonhlgfgbdiapaaGreat
