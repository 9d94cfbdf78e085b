import Derived.Test.YtonhlgfgbdiapaaGreatTlb2
import Derived.Lib.SliceRun
/- The TLB: Entries. -/
namespace Go.Proofs.YtonhlgfgbdiapaaGreat
set_option linter.unusedVariables false
set_option linter.unusedSimpArgs false
open Go.RowKit
set_option maxRecDepth 100000

theorem trans_nil (w : World) (a : Option Addr) (n c : Nat) : (binOp .eql 79 (Value.slice a n c) (Value.slice none 0 0)).run Tryz.prog w = .ok (.bool a.isNone) w := Lib.run_eql_slice_nil w _ _ a n c 0 0 Tryz.underlying79
theorem trsC_cell {l : List Tr} : ∀ u ∈ trsC l, u.oneCell' = true := by
  intro u hu
  obtain ⟨x, _, hx⟩ := List.mem_flatMap.1 hu
  simp [trC] at hx
  rcases hx with rfl | rfl | rfl | rfl <;> rfl
theorem trans_clone {own : Nat → Nat} {d n : Nat} {w : World} {v : Value} {xs : List Value} (h : Rw 153 4 own d w v n xs) (hn : n ≤ 1024) (h1 : ∀ u ∈ xs, u.oneCell' = true) (d' : Nat) :
    Calls Tryz.prog 95 #[v] w fun e w' => ∃ v', e = .returned v' ∧ Step (fun _ => False) own w (ext own w d') w' ∧ Rw 153 4 (ext own w d') d' w' v' n xs := by
  have qn := trans_nil
  rcases h.2 with ⟨rfl, rfl⟩ | ⟨g, o, cap, cur, rfl, ho, hb, hr⟩
  · have hx : xs = [] := List.eq_nil_of_length_eq_zero (by simpa using h.1)
    subst hx
    clear h h1
    go_enter Tryz.func95, Tryz.ntmps95
    go_wp2
    go_ret
    exact ⟨_, rfl, ⟨Upd.refl _ _, fun b hb => ext_old _ _ _ hb⟩, Rw.nil _ _ _ _ _⟩
  · obtain ⟨i, z, hi, hz, hs, hby, hzs⟩ := trans_parts
    have HI := Lib.hid (And.intro hi (And.intro hz (And.intro hs (And.intro hby hzs))))
    have hst := step_allocS own w (.cells #[] 153)
    have hrd := (h.step hst (fun h => h)).reads rfl
    have hst2 := step_allocS (up1 own w) w (.cells #[] 153)
    have hrow : Rw 153 4 (up1 own w) 0 (w.alloc (.cells #[] 153)) (.slice (some ⟨w.heap.size, 0, none⟩) 0 0) 0 [] := ⟨rfl, .inr ⟨w.heap.size, 0, 0, #[], rfl, if_neg (by omega), Blk.new w 153 #[], Nat.le_refl _, by unfold maxLen; omega, by simp, rfl⟩⟩
    have H0 := Lib.hid (And.intro (And.intro hrd h1) (And.intro (hst2.mono (C' := (· = 0)) (fun _ h => h.elim)) hrow))
    clear h h1 hr hb ho hi hz hs hby hzs hst hrd hst2 hrow
    go_enter Tryz.func95, Tryz.ntmps95
    go_wp2_with ((with_reducible show wpList _ _ _ ((⟨some 7, _, _, _, _, _⟩ : Oper) :: _) _ _); refine wpList_append_rw rfl (.tmp 5) (.tmp 6) _ rfl 153 i z 4 32 Tryz.underlying79 HI.out.1 HI.out.2.1 HI.out.2.2.1 HI.out.2.2.2.1 HI.out.2.2.2.2 (by omega) (own := up1 own w) (d := 0) (.slice (some ⟨w.heap.size, 0, none⟩) 0 0) 0 [] rfl H0.out.2.2 _ (some ⟨g, o, none⟩) n cap xs rfl H0.out.1.1 H0.out.1.2 (by unfold maxLen; omega) (by omega) ?_)
    intro v3 w3 hst3 hrow3
    have hst4 := H0.out.2.1.trans hst3
    have H4 := Lib.hid (And.intro hst4 hrow3)
    clear hst3 hrow3 hst4 H0
    go_wp2
    go_ret
    have hr4 := up1_row H4.out.1 H4.out.2 d'
    exact ⟨_, rfl, ⟨up1_upd H4.out.1, fun b hb => ext_old _ _ _ hb⟩, hr4⟩
theorem tlb_Entries {own : Nat → Nat} {c d p room : Nat} {w : World} {l : List Tr} (h : TlbAt own c d w p room l) (d' : Nat) :
    Calls Tryz.prog 56 #[.pointer (some ⟨p, 0, none⟩)] w fun e w' => ∃ v', e = .returned v' ∧ Step (fun _ => False) own w (ext own w d') w' ∧ Rw 153 4 (ext own w d') d' w' v' l.length (trsC l) := by
  obtain ⟨⟨v, hb, ho, hR⟩, h1, h2, h3⟩ := h
  have c1 : w.cell? ⟨p, 1, none⟩ = some v := hb.cell 1
  have HC := Lib.hid (trans_clone hR (by omega) trsC_cell d')
  clear hb ho hR h1 h2 h3
  go_enter Tryz.func56, Tryz.ntmps56
  go_wp2_with fail
  refine HC.out.mono ?_; rintro e w1 ⟨v2, rfl, hS1, hR1⟩
  have H1 := Lib.hid (And.intro hS1 hR1)
  obtain ⟨A2, cap2, hv2, _⟩ := hR1.form
  subst hv2
  clear hS1 hR1 HC
  go_wp2
  go_ret
  exact ⟨_, rfl, H1.out⟩
end Go.Proofs.YtonhlgfgbdiapaaGreat
