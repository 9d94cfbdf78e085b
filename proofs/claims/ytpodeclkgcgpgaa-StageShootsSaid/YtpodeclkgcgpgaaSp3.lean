import Derived.Test.YtpodeclkgcgpgaaSp2
/- A guest's space: grow, New, build. -/
namespace Go.Proofs.Ytpodeclkgcgpgaa
set_option linter.unusedVariables false
open Go.RowKit
set_option maxRecDepth 100000

/-- a row that one number was appended to, whatever was made ahead of it -/
theorem Row.appendedU {own1 : Nat → Nat} {d : Nat} {wr wx w2 : World} {v1 v2 : Value} {l : List Int} {z : Int} (hrow : Row own1 d wr v1 l) (hU : Upd (fun _ => False) wr wx)
    (hown2 : w2.ownsRow 0 3 1 v2 (l.length + 1) (l.map (.int .i64) ++ [.int .i64 z])) (hg2 : wx.grownBy w2 v1.ownBlock)
    (hob2 : v2.ownBlock = v1.ownBlock ∨ v2.ownBlock = some wx.heap.size) :
    Step (· = d) own1 wr (ext own1 wr d) w2 ∧ Row (ext own1 wr d) d w2 v2 (l ++ [z]) := by
  have hvc := hrow.2
  have hU2 : Upd (fun b => own1 b = d) wr w2 := (hU.mono (fun _ _ h => h.elim)).grown hg2 (fun g e => .inl (hvc g e))
  have hvg : ∀ g, v1.ownBlock = some g → g < wr.heap.size := by
    intro g e
    rcases hrow.1.2 with ⟨rfl, _⟩ | ⟨g', cap, cur, rfl, _, hg, _⟩
    · cases e
    · obtain rfl : g' = g := by simpa [Value.ownBlock] using e
      exact (show Blk wr g' 3 cur from hg).lt
  refine ⟨⟨hU2, fun b hb => ext_old _ _ _ hb⟩, by rw [List.length_append, List.map_append]; exact hown2, fun g e => ?_⟩
  rcases hob2 with h | h
  · rw [h] at e
    rw [ext_old _ _ _ (hvg g e)]; exact hvc g e
  · rw [h] at e
    cases e
    exact ext_new _ _ _ hU.size
/-- colours of the program's side: memory, pool, space and its tables -/
abbrev CS : Nat → Prop := fun x => x = 1 ∨ x = 3 ∨ x = 5 ∨ x = 6
/-- a space, its pool, its memory -/
def GS (own : Nat → Nat) (w : World) (sp rp pp : Nat) (vmid : Int) (n : Nat) (res harts : Int) (s : PSt) (ts : List Int) : Prop := PM own 3 1 w pp rp 0 n res harts s ∧ SpAt own w sp rp pp vmid ts
/-- one more table -/
def growS (s : PSt) (f : Nat) : PSt := ⟨s.ow.set f (-1), s.bt, clrF s.m f, s.cnt⟩
section
variable {own : Nat → Nat} {rp sp pp n : Nat} {res harts vmid : Int} {ts : List Int} {s : PSt} {w : World}
theorem GS.step {C : Nat → Prop} {own' : Nat → Nat} {w' : World} (h : GS own w sp rp pp vmid n res harts s ts) (hS : Step C own w own' w') (hc : ¬ C 1 ∧ ¬ C 3 ∧ ¬ C 5 ∧ ¬ C 6) : GS own' w' sp rp pp vmid n res harts s ts :=
  ⟨⟨h.1.1.step hS hc.2.1, h.1.2.step hS hc.1⟩, h.2.step hS hc.2.2.1 hc.2.2.2⟩
theorem takeP_mon {ow : List Int} {f : Nat} (h : freeP ow = some f) : takeP ow (-1) = ((f : Int), 0, ow.set f (-1)) := by
  unfold takeP; rw [if_pos (okO_iff.2 (Or.inl rfl)), h]
theorem free_lt {ow : List Int} {f : Nat} (h : freeP ow = some f) : f < ow.length ∧ ow[f]? = some 0 := by
  unfold freeP at h
  rw [List.findIdx?_eq_some_iff_getElem] at h
  obtain ⟨hl, he, _⟩ := h
  exact ⟨hl, by rw [List.getElem?_eq_getElem hl]; simpa using he⟩
set_option maxHeartbeats 1000000 in
theorem sp_grow (h : GS own w sp rp pp vmid n res harts s ts) (f : Nat) (hf : freeP s.ow = some f) (hts : ts.length ≤ 1024) :
    Calls Try.prog 135 #[.pointer (some ⟨sp, 0, none⟩)] w fun e w' => e = .returned (.int .i64 (f : Int)) ∧ ∃ own', Step CS own w own' w' ∧ GS own' w' sp rp pp vmid n res harts (growS s f) (ts ++ [(f : Int)]) := by
  obtain ⟨v, ⟨hB, ho⟩, hR⟩ := h.2
  have hfn : f < n := by
    obtain ⟨⟨qo, qb, d, hP⟩, _⟩ := h.1
    have := (free_lt hf).1
    rw [hP.lo] at this; exact this
  have c1 : w.cell? ⟨sp, 1, none⟩ = some (.pointer (some ⟨pp, 0, none⟩)) := hB.cell 1
  have hT := pool_Take h.1.1 (-1)
  rw [takeP_mon hf] at hT
  have HT := Lib.hid hT
  have H0 := Lib.hid (And.intro h.1 (And.intro hB (And.intro ho hR)))
  obtain ⟨ie, hie, hiz, his, hib⟩ := info_parts info_int
  clear hT h hB ho hR hf
  go_enter Try.func135, Try.ntmps135
  go_wp2_with fail
  refine HT.out.mono ?_; rintro e w1 ⟨rfl, hS1, hP1⟩
  have hb1 := hS1.blk H0.out.2.1 H0.out.2.2.1 (by omega)
  have hR1 := H0.out.2.2.2.step hS1 (by omega)
  have hM1 := H0.out.1.2.step hS1 (by omega)
  have c0 : w1.cell? ⟨sp, 0, none⟩ = some (.pointer (some ⟨rp, 0, none⟩)) := hb1.1.cell 0
  have HC := Lib.hid (ram_Clear hM1 f hfn)
  have H1 := Lib.hid (And.intro hS1 (And.intro hP1 (And.intro hb1 hR1)))
  clear hS1 hP1 hb1 hR1 hM1 HT c1
  go_wp2_with fail
  refine HC.out.mono ?_; rintro e w2 ⟨rfl, hS2, hM2⟩
  have hb2 := hS2.blk H1.out.2.2.1.1 H1.out.2.2.1.2 (by omega)
  have hR2 := H1.out.2.2.2.step hS2 (by omega)
  have hP2 := H1.out.2.1.step hS2 (by omega)
  have c3 : w2.cell? ⟨sp, 3, none⟩ = some v := hb2.1.cell 3
  have z3 := hb2.1.frozen 3
  have hl := hb2.1.lt
  have H2 := Lib.hid (And.intro ((H1.out.1.mono (C' := CS) (fun x h => Or.inr (Or.inl h))).trans (hS2.mono (fun x h => Or.inl h))) (And.intro hP2 (And.intro hM2 (And.intro hb2 hR2))))
  clear hS2 hM2 hb2 hR2 hP2 H1 HC c0
  go_wp2_with ((with_reducible show wpList _ _ _ ((⟨some 27, _, _, _, _, _⟩ : Oper) :: _) _ _); refine wpList_append_any _ rfl (.tmp 24) (.tmp 26) _ rfl 0 3 ie _ 1 8 Try.underlying45 hie hiz his hib rfl (by omega) v _ _ rfl (H2.out.2.2.2.2.step (step_alloc own w2 (.cells #[.int .i64 (f : Int)] 3)) (fun h => h)).1 (w2.heap.size + 1) (some ⟨w2.heap.size, 0, none⟩) 1 1 [.int .i64 (f : Int)] rfl ⟨rfl, fun _ => ⟨_, rfl, Nat.lt_succ_self _, cell_one_new _ _ _⟩⟩ (by simp [Value.oneCell']) (by unfold maxLen; omega) (by omega) (by omega) ?_)
  intro v2 w3 hown2 hg2 hob2
  obtain ⟨hst3, hrow3⟩ := H2.out.2.2.2.2.appendedU ((Upd.refl (fun _ => False) w2).alloc (.cells #[.int .i64 (f : Int)] 3)) hown2 hg2 (by rw [World.size_alloc]; exact hob2)
  have hb3 := hst3.blk H2.out.2.2.2.1.1 H2.out.2.2.2.1.2 (by omega)
  have hP3 := H2.out.2.1.step hst3 (by omega)
  have hM3 := H2.out.2.2.1.step hst3 (by omega)
  obtain ⟨A2, cap2, hv2, _⟩ := hrow3.form
  rw [show (ts ++ [(f : Int)]).length = ts.length + 1 from by simp] at hv2
  subst hv2
  have x3 : w3.cell? ⟨sp, 3, none⟩ = some v := hb3.1.cell 3
  have y3 := hb3.1.frozen 3
  have hl3 := hb3.1.lt
  have H3 := Lib.hid (And.intro (H2.out.1.trans (hst3.mono (fun x h => Or.inr (Or.inr (Or.inr h))))) (And.intro hP3 (And.intro hM3 (And.intro hb3 hrow3))))
  clear hown2 hg2 hob2 hst3 hrow3 hb3 hP3 hM3 H2 c3 z3 hl
  go_wp2
  go_ret
  have hst4 : Step (· = 5) (ext own w2 6) w3 (ext own w2 6) (w3.setCell ⟨sp, 3, none⟩ (.slice A2 (ts.length + 1) cap2)) := ⟨(Upd.refl _ _).setCell (.inl H3.out.2.2.2.1.2) _, fun _ _ => rfl⟩
  refine ⟨rfl, ext own w2 6, H3.out.1.trans (hst4.mono (fun x h => Or.inr (Or.inr (Or.inl h)))), ⟨H3.out.2.1.step (C := (· = 5)) hst4 (by decide), H3.out.2.2.1.step (C := (· = 5)) hst4 (by decide)⟩, _, ⟨?_, H3.out.2.2.2.1.2⟩, H3.out.2.2.2.2.step (C := (· = 5)) hst4 (by decide)⟩
  exact H3.out.2.2.2.1.1.set_ 3 _
theorem st_right (v : Int) (w : World) (hv : 1 ≤ v ∧ v ≤ 15) : Calls Try.prog 100 #[.int .i64 v] w fun e w' => e = .returned (.bool true) ∧ w = w' := by
  obtain ⟨h1, h2⟩ := hv
  go_enter Try.func100, Try.ntmps100
  go_wp2
  go_ret
  exact ⟨rfl, rfl⟩
theorem sp_New (h : PM own 3 1 w pp rp 0 n res harts s) (f : Nat) (hf : freeP s.ow = some f) (hv : 1 ≤ vmid ∧ vmid ≤ 15) :
    Calls Try.prog 92 #[.pointer (some ⟨rp, 0, none⟩), .pointer (some ⟨pp, 0, none⟩), .int .i64 vmid] w fun e w' => ∃ sp own', e = .returned (.tuple #[.pointer (some ⟨sp, 0, none⟩), .int .i64 0]) ∧ Step CS own w own' w' ∧ GS own' w' sp rp pp vmid n res harts (growS s f) [(f : Int)] := by
  have hst : Step (fun _ => False) own w (ext own w 5) (w.alloc (.cells #[.pointer (some ⟨rp, 0, none⟩), .pointer (some ⟨pp, 0, none⟩), .int .i64 vmid, .slice none 0 0] 181)) := ⟨(Upd.refl _ _).alloc _, fun b hb => ext_old _ _ _ hb⟩
  have hB := Blk.new w 181 #[.pointer (some ⟨rp, 0, none⟩), .pointer (some ⟨pp, 0, none⟩), .int .i64 vmid, .slice none 0 0]
  have hP := h.1.step hst (fun h => h)
  have hM := h.2.step hst (fun h => h)
  have hG : GS (ext own w 5) (w.alloc (.cells #[.pointer (some ⟨rp, 0, none⟩), .pointer (some ⟨pp, 0, none⟩), .int .i64 vmid, .slice none 0 0] 181)) w.heap.size rp pp vmid n res harts s [] := ⟨⟨hP, hM⟩, _, ⟨hB, ext_new _ _ _ (Nat.le_refl _)⟩, Row.nil _ _ _⟩
  have hcn : 1 ≤ countP s.ow 0 := by
    have := (free_lt hf)
    unfold countP
    exact List.length_pos_of_mem (List.mem_filter.2 ⟨List.mem_of_getElem? this.2, by simp⟩)
  have hC := pool_Count hP 0
  obtain ⟨cn, hce⟩ : ∃ cn, countP s.ow 0 = cn := ⟨_, rfl⟩
  rw [hce] at hcn hC
  have HC := Lib.hid hC
  have HR := Lib.hid (fun w => st_right vmid w hv)
  have HGr := Lib.hid (sp_grow hG f hf (by simp))
  have HS := Lib.hid hst
  have hlc : decide ((cn : Int) < 1) = false := by simp; omega
  have c1 := hB.cell 1
  simp only [List.getElem?_toArray, List.getElem?_cons_zero, List.getElem?_cons_succ] at c1
  clear h hB hP hM hG hst hC hce hf
  go_enter Try.func92, Try.ntmps92
  go_wp2_with fail
  refine (HR.out _).mono ?_; rintro e w1 ⟨rfl, rfl⟩
  go_wp2_with fail
  refine HC.out.mono ?_; rintro e w1 ⟨rfl, rfl⟩
  go_wp2_with fail
  refine HGr.out.mono ?_; rintro e w2 ⟨rfl, own2, hS2, hG2⟩
  have H2 := Lib.hid (And.intro ((HS.out.mono (C' := CS) (fun _ h => h.elim)).trans hS2) hG2)
  clear hS2 hG2
  go_wp2
  go_ret2
  exact ⟨_, own2, rfl, H2.out⟩
/-- one level of build -/
def lvOk (n : Nat) (s : PSt) (t i : Nat) : Prop := t < n ∧ i < 512 ∧ (en s.m t i ≠ 0 → en s.m t i / 1024 < n) ∧ (en s.m t i = 0 → ∃ f, freeP s.ow = some f)
def lvS (s : PSt) (ts : List Int) (t i : Nat) : Nat × PSt × List Int :=
  if en s.m t i = 0 then ((freeP s.ow).getD 0, ⟨(growS s ((freeP s.ow).getD 0)).ow, s.bt, enS (growS s ((freeP s.ow).getD 0)).m t i ((((freeP s.ow).getD 0 * 1024 + 1 : Nat)) : Int), s.cnt⟩, ts ++ [(((freeP s.ow).getD 0 : Nat) : Int)])
  else (en s.m t i / 1024, s, ts)
theorem or_one_nat (f : Nat) (hf : f < 4503599627370496) : bits .or .u64 ((f * 1024 : Nat) : Int) 1 = ((f * 1024 + 1 : Nat) : Int) := by
  rw [show (1 : Int) = ((1 : Nat) : Int) from rfl, u64_or_nat _ _ (by omega) (by decide), nat_join 10 _ _ (by omega) (by decide)]
end
end Go.Proofs.Ytpodeclkgcgpgaa
