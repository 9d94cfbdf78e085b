import Derived.Test.YtpodeclkgcgpgaaSp8
/- citadellaw10.spaces: two spaces over one memory. -/
namespace Go.Proofs.Ytpodeclkgcgpgaa
set_option linter.unusedVariables false
set_option linter.unusedSimpArgs false
open Go.RowKit
set_option maxRecDepth 100000

/-- colours anew -/
theorem MemIn.recol {K : MK} {own own' : Nat → Nat} {c c' p q base : Nat} {fs : List (Option Nat)} {m : Nat → Int} {w : World} (h : MemIn K own c w p q base fs m) (hg : ∀ b, own b = c → own' b = c') : MemIn K own' c' w p q base fs m :=
  { h with op := hg _ h.op, oq := hg _ h.oq, there := fun k b e => ⟨hg _ (h.there k b e).1, (h.there k b e).2⟩ }
theorem MemAt.recol {K : MK} {own own' : Nat → Nat} {c c' p base n : Nat} {m : Nat → Int} {w : World} (h : MemAt K own c w p base n m) (hg : ∀ b, own b = c → own' b = c') : MemAt K own' c' w p base n m := by
  obtain ⟨q, fs, h, e⟩ := h
  exact ⟨q, fs, h.recol hg, e⟩
theorem PoolAt.recol {own own' : Nat → Nat} {c c' pp rp n : Nat} {res harts : Int} {ow bt : List Int} {w : World} (h : PoolAt own c w pp rp n res harts ow bt) (hg : ∀ b, own b = c → own' b = c') : PoolAt own' c' w pp rp n res harts ow bt := by
  obtain ⟨qo, qb, d, h⟩ := h
  exact ⟨qo, qb, d, { h with op := hg _ h.op, oo := hg _ h.oo, bb := fun hd => ⟨(h.bb hd).1, hg _ (h.bb hd).2⟩ }⟩
theorem Row.recol {own own' : Nat → Nat} {d d' : Nat} {w : World} {v : Value} {l : List Int} (h : Row own d w v l) (hg : ∀ b, own b = d → own' b = d') : Row own' d' w v l := ⟨h.1, fun g e => hg _ (h.2 g e)⟩
def swC (x : Nat) : Nat := if x = 5 then 9 else if x = 9 then 5 else if x = 6 then 10 else if x = 10 then 6 else x
theorem swC_swC (x : Nat) : swC (swC x) = x := by
  unfold swC; split
  · rename_i h; simp [h]
  · split
    · rename_i h; simp [h]
    · split
      · rename_i h; simp [h]
      · split
        · rename_i h; simp [h]
        · simp [*]
theorem PM.swap {own : Nat → Nat} {w : World} {pp rp n : Nat} {res harts : Int} {s : PSt} (h : PM own 3 1 w pp rp 0 n res harts s) : PM (fun b => swC (own b)) 3 1 w pp rp 0 n res harts s :=
  ⟨h.1.recol (fun b e => by show swC (own b) = 3; rw [e]; rfl), h.2.recol (fun b e => by show swC (own b) = 1; rw [e]; rfl)⟩
/-- a space at other colours -/
def SpAs (own : Nat → Nat) (w : World) (sp rp pp : Nat) (vmid : Int) (ts : List Int) : Prop := SpAt (fun b => swC (own b)) w sp rp pp vmid ts
theorem SpAs.step {C : Nat → Prop} {own own' : Nat → Nat} {w w' : World} {sp rp pp : Nat} {vmid : Int} {ts : List Int} (h : SpAs own w sp rp pp vmid ts) (hS : Step C own w own' w') (h5 : ¬ C 9) (h6 : ¬ C 10) : SpAs own' w' sp rp pp vmid ts := by
  have hS' : Step (fun x => C (swC x)) (fun b => swC (own b)) w (fun b => swC (own' b)) w' := ⟨hS.upd.mono (fun i _ hc => by show C (swC (swC (own i))); rw [swC_swC]; exact hc), fun b hb => by show swC (own' b) = swC (own b); rw [hS.old b hb]⟩
  exact SpAt.step h hS' h5 h6
/-- a space over a pool goes to the other colours, and back -/
theorem SpAt.as {own : Nat → Nat} {w : World} {sp rp pp : Nat} {vmid : Int} {ts : List Int} (h : SpAt own w sp rp pp vmid ts) : SpAs (fun b => swC (own b)) w sp rp pp vmid ts := by
  show SpAt (fun b => swC (swC (own b))) w sp rp pp vmid ts
  simp only [swC_swC]; exact h
theorem results_spaces {P : Program} {fn : Func} {p u a b c : Tmp} {ty : TypeId} (h : fn.results = #[.tmp a, .tmp b, .tmp c, .cell p ty, .tmp u]) (tmps : Array Value) (w : World) (g : Nat) (t : TypeId) (cs : Array Value) (d : TypeDesc)
    (hp : tmps.getD p undef = .pointer (some ⟨g, 0, none⟩)) (hg : Blk w g t cs)
    (hu : P.underlying ty = some d) (hd : (match d with | .struct _ | .array _ _ => true | _ => false) = true) (hi : (P.info? ty).map (·.size) = some cs.size) :
    (results fn tmps).run P w = .ok (.tuple #[tmps.getD a undef, tmps.getD b undef, tmps.getD c undef, .agg cs, tmps.getD u undef]) w := by
  have hl := run_loadVar_row w g t ty cs (0, 0) d hg hu hd hi
  rw [Array.getD_eq_getD_getElem?] at hp
  simp only [results, h]
  simp [Sem.run_bind, Result.andThen, hp, asAddr, hl]
/-- the state behind spaces -/
def s16 : PSt := growS (growS ⟨initO 16 1, List.replicate 16 0, fun _ => 0, 0⟩ 1) 2
theorem free16a : freeP (initO 16 1) = some 1 := free10 16 (by omega)
theorem free16b : freeP (growS ⟨initO 16 1, List.replicate 16 0, fun _ => 0, 0⟩ 1).ow = some 2 := by kernel_rfl
set_option maxHeartbeats 2000000 in
theorem law10_spaces (w : World) :
    Calls Try.prog 39 #[] w fun e w' => ∃ sa sb pp p1 p2 own', e = .returned (.tuple #[.pointer (some ⟨sa, 0, none⟩), .pointer (some ⟨sb, 0, none⟩), .pointer (some ⟨pp, 0, none⟩), .agg #[.pointer (some ⟨p1, 0, none⟩), .pointer (some ⟨p2, 0, none⟩)], .bool true]) ∧
      Step (fun x => x ≠ 0) (fun _ => 0) w own' w' ∧ GS own' w' sa p1 pp 1 16 1 1 s16 [1] ∧ SpAs own' w' sb p1 pp 2 [2] := by
  have hst0 : Step (fun x => x ≠ 0) (fun _ => 0) w (ext (fun _ => 0) w 0) (w.alloc (.cells #[.pointer none, .pointer none] 27)) := ⟨(Upd.refl _ _).alloc _, fun b hb => ext_old _ _ _ hb⟩
  have hB0 := Blk.new w 27 #[.pointer none, .pointer none]
  have H0 := Lib.hid (And.intro hst0 (And.intro hB0 (show ext (fun _ => 0) w 0 w.heap.size = 0 from ext_new _ _ _ (Nat.le_refl _))))
  clear hst0 hB0
  go_enter Try.func39, Try.ntmps39
  go_wp2_with fail
  refine (law_Memory 16 (by omega) (by omega) (ext (fun _ => 0) w 0) 1 2 (by omega) _).mono ?_
  rintro e w1 ⟨p1, p2, own1, rfl, hS1, hM1, hM2⟩
  have hA : Step (fun _ => False) own1 w1 (ext own1 w1 0) (w1.alloc (.cells #[.pointer (some ⟨p1, 0, none⟩), .pointer (some ⟨p2, 0, none⟩)] 27)) := ⟨(Upd.refl _ _).alloc _, fun b hb => ext_old _ _ _ hb⟩
  have hB := Blk.new w1 27 #[.pointer (some ⟨p1, 0, none⟩), .pointer (some ⟨p2, 0, none⟩)]
  have hbv := (hS1.trans hA).blk H0.out.2.1 H0.out.2.2 (fun h => h)
  have H1 := Lib.hid (And.intro (H0.out.1.trans ((hS1.trans hA).mono (fun _ h => h.elim))) (And.intro (hM1.step hA (fun h => h)) (And.intro (And.intro hB (show ext own1 w1 0 w1.heap.size = 0 from ext_new own1 w1 0 (Nat.le_refl _))) hbv)))
  clear hA hB hS1 hM1 hM2 hbv H0
  have HN := Lib.hid (pool_New H1.out.2.1 1 1 (by omega) (by omega) (by omega) 3)
  have hb0 := H1.out.2.2.1.1.cell 0
  simp only [List.getElem?_toArray, List.getElem?_cons_zero, List.getElem?_cons_succ] at hb0
  have HV := Lib.hid (Nat.le_refl w.heap.size)
  generalize hvv : w.heap.size = vb at H1 ⊢
  rw [hvv] at HV
  have HV2 := Lib.hid (Nat.le_of_eq hvv)
  clear hvv
  go_wp2_with fail
  refine HN.out.mono ?_; rintro e w3 ⟨pp, own3, rfl, hS2, hP2⟩
  have H2 := Lib.hid (And.intro (H1.out.1.trans (hS2.mono (fun _ h => h.elim))) (And.intro (show PM own3 3 1 w3 pp p1 0 16 1 1 ⟨initO 16 1, List.replicate 16 0, fun _ => 0, 0⟩ from ⟨hP2, H1.out.2.1.step hS2 (fun h => h)⟩) (And.intro (hS2.blk H1.out.2.2.1.1 H1.out.2.2.1.2 (fun h => h)) (hS2.blk H1.out.2.2.2.1 H1.out.2.2.2.2 (fun h => h)))))
  clear hS2 hP2 H1 HN hb0
  have HN := Lib.hid (sp_New (vmid := 1) H2.out.2.1 1 free16a (by omega))
  have hb0 := H2.out.2.2.1.1.cell 0
  simp only [List.getElem?_toArray, List.getElem?_cons_zero, List.getElem?_cons_succ] at hb0
  go_wp2_with fail
  refine HN.out.mono ?_; rintro e w5 ⟨sa, own5, rfl, hS4, hG4⟩
  have H4 := Lib.hid (And.intro (H2.out.1.trans (hS4.mono (fun x h => by omega))) (And.intro hG4 (And.intro (hS4.blk H2.out.2.2.1.1 H2.out.2.2.1.2 (by omega)) (hS4.blk H2.out.2.2.2.1 H2.out.2.2.2.2 (by omega)))))
  clear hS4 hG4 H2 HN hb0
  have HN := Lib.hid (sp_New (vmid := 2) (PM.swap H4.out.2.1.1) 2 free16b (by omega))
  have hb0 := H4.out.2.2.1.1.cell 0
  simp only [List.getElem?_toArray, List.getElem?_cons_zero, List.getElem?_cons_succ] at hb0
  go_wp2_with fail
  refine HN.out.mono ?_; rintro e w6 ⟨sb, own6, rfl, hS5, hG5⟩
  obtain ⟨own7, hS6, hPM, hSb⟩ : ∃ own7, Step (fun x => CS (swC x)) own5 w5 own7 w6 ∧ PM own7 3 1 w6 pp p1 0 16 1 1 s16 ∧ SpAs own7 w6 sb p1 pp 2 [2] :=
    ⟨fun b => swC (own6 b), ⟨hS5.upd, fun b hb => by show swC (own6 b) = own5 b; rw [hS5.old b hb, swC_swC]⟩, PM.swap hG5.1, hG5.2.as⟩
  have hSa : SpAt own7 w6 sa p1 pp 1 [1] := H4.out.2.1.2.step hS6 (by decide) (by decide)
  have H5 := Lib.hid (And.intro (H4.out.1.trans (hS6.mono (C' := fun x => x ≠ 0) (fun x h => by rintro rfl; revert h; decide))) (And.intro (show GS own7 w6 sa p1 pp 1 16 1 1 s16 [1] from ⟨hPM, hSa⟩) (And.intro hSb (And.intro (hS6.blk H4.out.2.2.1.1 H4.out.2.2.1.2 (by decide)) (hS6.blk H4.out.2.2.2.1 H4.out.2.2.2.2 (by decide))))))
  clear hS5 hG5 H4 HN hb0 hS6 hSa hPM hSb
  go_wp2_with fail
  have hstd : Step (fun _ => False) own7 w6 own7 w6.drew := (Step.refl _ _ _).drew
  have hbx := (hstd.blk H5.out.2.2.2.1.1 H5.out.2.2.2.1.2 (fun h => h)).1
  have hby := hstd.blk H5.out.2.2.2.2.1 H5.out.2.2.2.2.2 (fun h => h)
  have H6 := Lib.hid (And.intro (H5.out.1.trans (hstd.mono (fun _ h => h.elim))) (And.intro (H5.out.2.1.step hstd (by simp)) (And.intro (H5.out.2.2.1.step hstd (fun h => h) (fun h => h)) hby)))
  have hl := hby.1.lt
  have z0 := hby.1.frozen 0
  have z1 := hby.1.frozen 1
  have y0 := hby.1.cell 0
  have y1 := hby.1.cell 1
  simp only [List.getElem?_toArray, List.getElem?_cons_zero, List.getElem?_cons_succ, World.cell?_drew] at y0 y1
  simp only [World.frozen?_drew] at z0 z1
  have hne : w1.heap.size ≠ vb := by
    intro e
    have h1 := hbx.cell 0
    have h2 := hby.1.cell 0
    rw [e, h2] at h1
    simp at h1
  clear hstd hby H5
  generalize w1.heap.size = tb at *
  refine wpE_region (S := fun (W' : World) => Blk W' tb 27 #[.pointer (some ⟨p1, 0, none⟩), .pointer (some ⟨p2, 0, none⟩)]) (s := 22) (by kernel_rfl) ?_
  have hS : (fun (W' : World) => Blk W' tb 27 #[.pointer (some ⟨p1, 0, none⟩), .pointer (some ⟨p2, 0, none⟩)]) _ := hbx
  refine wpE_take (i := 0) (oi := { dst := some 46, op := Go.Op.move (Go.Operand.tmp 9), type := 59, pos := "outright.go:23", after := #[], guard := none }) (v := ?_) rfl (by kernel_rfl) (fun _ _ _ h => h) (Or.inl ⟨by rfl, fun W hW => ?_⟩) hS ?_
  rotate_left
  · (have hw1 := hW.cell 0; have hw2 := hW.cell 1; simp only [List.getElem?_toArray, List.getElem?_cons_zero, List.getElem?_cons_succ] at hw1 hw2); go_simp; (try go_bits); (try rw [if_pos (by omega)]); (try with_reducible rfl)
  (try simp only [Act.put, List.setIfInBounds_toArray, List.set_cons_succ, List.set_cons_zero])
  refine wpE_take (i := 1) (oi := { dst := some 47, op := Go.Op.move (Go.Operand.tmp 10), type := 59, pos := "outright.go:23", after := #[{ on := 18, ground := Go.Ground.gcOnly Go.Departure.lateStores }], guard := none }) (v := ?_) rfl (by kernel_rfl) (fun _ _ _ h => h) (Or.inl ⟨by rfl, fun W hW => ?_⟩) hS ?_
  rotate_left
  · (have hw1 := hW.cell 0; have hw2 := hW.cell 1; simp only [List.getElem?_toArray, List.getElem?_cons_zero, List.getElem?_cons_succ] at hw1 hw2); go_simp; (try go_bits); (try rw [if_pos (by omega)]); (try with_reducible rfl)
  (try simp only [Act.put, List.setIfInBounds_toArray, List.set_cons_succ, List.set_cons_zero])
  refine wpE_take (i := 2) (oi := { dst := some 48, op := Go.Op.move (Go.Operand.tmp 7), type := 31, pos := "outright.go:23", after := #[{ on := 19, ground := Go.Ground.gcOnly Go.Departure.lateStores }], guard := none }) (v := ?_) rfl (by kernel_rfl) (fun _ _ _ h => h) (Or.inl ⟨by rfl, fun W hW => ?_⟩) hS ?_
  rotate_left
  · (have hw1 := hW.cell 0; have hw2 := hW.cell 1; simp only [List.getElem?_toArray, List.getElem?_cons_zero, List.getElem?_cons_succ] at hw1 hw2); go_simp; (try go_bits); (try rw [if_pos (by omega)]); (try with_reducible rfl)
  (try simp only [Act.put, List.setIfInBounds_toArray, List.set_cons_succ, List.set_cons_zero])
  refine wpE_take (i := 3) (oi := { dst := some 49, op := Go.Op.load 27 (Go.Operand.tmp 5), type := 27, pos := "outright.go:23", after := #[{ on := 20, ground := Go.Ground.gcOnly Go.Departure.lateStores }], guard := none }) (v := .agg #[.pointer (some ⟨p1, 0, none⟩), .pointer (some ⟨p2, 0, none⟩)]) rfl (by kernel_rfl) (fun _ _ _ h => h) (Or.inl ⟨by rfl, fun W hW => ?_⟩) hS ?_
  · (have hw1 := hW.cell 0; have hw2 := hW.cell 1; simp only [List.getElem?_toArray, List.getElem?_cons_zero, List.getElem?_cons_succ] at hw1 hw2); go_simp; (try go_bits); (try rw [if_pos (by omega)]); (try with_reducible rfl)
  (try simp only [Act.put, List.setIfInBounds_toArray, List.set_cons_succ, List.set_cons_zero])
  refine wpE_take (i := 4) (oi := { dst := some 50, op := Go.Op.move (Go.Operand.tmp 8), type := 32, pos := "outright.go:23", after := #[], guard := none }) (v := ?_) rfl (by kernel_rfl) (fun _ _ _ h => h) (Or.inl ⟨by rfl, fun W hW => ?_⟩) hS ?_
  rotate_left
  · (have hw1 := hW.cell 0; have hw2 := hW.cell 1; simp only [List.getElem?_toArray, List.getElem?_cons_zero, List.getElem?_cons_succ] at hw1 hw2); go_simp; (try go_bits); (try rw [if_pos (by omega)]); (try with_reducible rfl)
  (try simp only [Act.put, List.setIfInBounds_toArray, List.set_cons_succ, List.set_cons_zero])
  refine wpE_take (i := 5) (oi := { dst := some 51, op := Go.Op.binOp Go.BinOp.eql 32 (Go.Operand.tmp 50) (Go.Operand.const (Go.Value.int Go.IntKind.i64 0)) 32, type := 4, pos := "outright.go:23", after := #[{ on := 4, ground := Go.Ground.data }], guard := none }) (v := ?_) rfl (by kernel_rfl) (fun _ _ _ h => h) (Or.inl ⟨by rfl, fun W hW => ?_⟩) hS ?_
  rotate_left
  · (have hw1 := hW.cell 0; have hw2 := hW.cell 1; simp only [List.getElem?_toArray, List.getElem?_cons_zero, List.getElem?_cons_succ] at hw1 hw2); go_simp; (try go_bits); (try rw [if_pos (by omega)]); (try with_reducible rfl)
  (try simp only [Act.put, List.setIfInBounds_toArray, List.set_cons_succ, List.set_cons_zero])
  refine wpE_take (i := 6) (oi := { dst := some 52, op := Go.Op.move (Go.Operand.tmp 51), type := 4, pos := "outright.go:23", after := #[{ on := 5, ground := Go.Ground.data }], guard := none }) (v := ?_) rfl (by kernel_rfl) (fun _ _ _ h => h) (Or.inl ⟨by rfl, fun W hW => ?_⟩) hS ?_
  rotate_left
  · (have hw1 := hW.cell 0; have hw2 := hW.cell 1; simp only [List.getElem?_toArray, List.getElem?_cons_zero, List.getElem?_cons_succ] at hw1 hw2); go_simp; (try go_bits); (try rw [if_pos (by omega)]); (try with_reducible rfl)
  (try simp only [Act.put, List.setIfInBounds_toArray, List.set_cons_succ, List.set_cons_zero])
  refine wpE_take (i := 7) (oi := { dst := some 53, op := Go.Op.move (Go.Operand.tmp 11), type := 32, pos := "outright.go:23", after := #[{ on := 6, ground := Go.Ground.guard }], guard := some (6, true) }) (v := ?_) rfl (by kernel_rfl) (fun _ _ _ h => h) (Or.inl ⟨by rfl, fun W hW => ?_⟩) hS ?_
  rotate_left
  · (have hw1 := hW.cell 0; have hw2 := hW.cell 1; simp only [List.getElem?_toArray, List.getElem?_cons_zero, List.getElem?_cons_succ] at hw1 hw2); go_simp; (try go_bits); (try rw [if_pos (by omega)]); (try with_reducible rfl)
  (try simp only [Act.put, List.setIfInBounds_toArray, List.set_cons_succ, List.set_cons_zero])
  refine wpE_take (i := 8) (oi := { dst := some 54, op := Go.Op.binOp Go.BinOp.eql 32 (Go.Operand.tmp 53) (Go.Operand.const (Go.Value.int Go.IntKind.i64 0)) 32, type := 4, pos := "outright.go:23", after := #[{ on := 7, ground := Go.Ground.data }, { on := 6, ground := Go.Ground.guard }], guard := some (6, true) }) (v := ?_) rfl (by kernel_rfl) (fun _ _ _ h => h) (Or.inl ⟨by rfl, fun W hW => ?_⟩) hS ?_
  rotate_left
  · (have hw1 := hW.cell 0; have hw2 := hW.cell 1; simp only [List.getElem?_toArray, List.getElem?_cons_zero, List.getElem?_cons_succ] at hw1 hw2); go_simp; (try go_bits); (try rw [if_pos (by omega)]); (try with_reducible rfl)
  (try simp only [Act.put, List.setIfInBounds_toArray, List.set_cons_succ, List.set_cons_zero])
  refine wpE_take (i := 9) (oi := { dst := some 55, op := Go.Op.pick (Go.Operand.tmp 52) (Go.Operand.tmp 54) (Go.Operand.const (Go.Value.bool false)), type := 4, pos := "outright.go:23", after := #[{ on := 6, ground := Go.Ground.data }, { on := 8, ground := Go.Ground.data }], guard := none }) (v := ?_) rfl (by kernel_rfl) (fun _ _ _ h => h) (Or.inl ⟨by rfl, fun W hW => ?_⟩) hS ?_
  rotate_left
  · (have hw1 := hW.cell 0; have hw2 := hW.cell 1; simp only [List.getElem?_toArray, List.getElem?_cons_zero, List.getElem?_cons_succ] at hw1 hw2); go_simp; (try go_bits); (try rw [if_pos (by omega)]); (try with_reducible rfl)
  (try simp only [Act.put, List.setIfInBounds_toArray, List.set_cons_succ, List.set_cons_zero])
  refine wpE_take (i := 10) (oi := { dst := some 56, op := Go.Op.move (Go.Operand.tmp 55), type := 4, pos := "outright.go:23", after := #[{ on := 9, ground := Go.Ground.data }, { on := 6, ground := Go.Ground.chain }], guard := none }) (v := ?_) rfl (by kernel_rfl) (fun _ _ _ h => h) (Or.inl ⟨by rfl, fun W hW => ?_⟩) hS ?_
  rotate_left
  · (have hw1 := hW.cell 0; have hw2 := hW.cell 1; simp only [List.getElem?_toArray, List.getElem?_cons_zero, List.getElem?_cons_succ] at hw1 hw2); go_simp; (try go_bits); (try rw [if_pos (by omega)]); (try with_reducible rfl)
  (try simp only [Act.put, List.setIfInBounds_toArray, List.set_cons_succ, List.set_cons_zero])
  refine wpE_take (i := 11) (oi := { dst := some 57, op := Go.Op.move (Go.Operand.tmp 9), type := 59, pos := "outright.go:23", after := #[{ on := 10, ground := Go.Ground.guard }], guard := some (10, true) }) (v := ?_) rfl (by kernel_rfl) (fun _ _ _ h => h) (Or.inl ⟨by rfl, fun W hW => ?_⟩) hS ?_
  rotate_left
  · (have hw1 := hW.cell 0; have hw2 := hW.cell 1; simp only [List.getElem?_toArray, List.getElem?_cons_zero, List.getElem?_cons_succ] at hw1 hw2); go_simp; (try go_bits); (try rw [if_pos (by omega)]); (try with_reducible rfl)
  (try simp only [Act.put, List.setIfInBounds_toArray, List.set_cons_succ, List.set_cons_zero])
  refine wpE_take (i := 12) (oi := { dst := some 58, op := Go.Op.binOp Go.BinOp.neq 59 (Go.Operand.tmp 57) (Go.Operand.const (Go.Value.pointer none)) 59, type := 4, pos := "outright.go:23", after := #[{ on := 11, ground := Go.Ground.data }, { on := 10, ground := Go.Ground.guard }], guard := some (10, true) }) (v := ?_) rfl (by kernel_rfl) (fun _ _ _ h => h) (Or.inl ⟨by rfl, fun W hW => ?_⟩) hS ?_
  rotate_left
  · (have hw1 := hW.cell 0; have hw2 := hW.cell 1; simp only [List.getElem?_toArray, List.getElem?_cons_zero, List.getElem?_cons_succ] at hw1 hw2); go_simp; (try go_bits); (try rw [if_pos (by omega)]); (try with_reducible rfl)
  (try simp only [Act.put, List.setIfInBounds_toArray, List.set_cons_succ, List.set_cons_zero])
  refine wpE_take (i := 13) (oi := { dst := some 59, op := Go.Op.pick (Go.Operand.tmp 56) (Go.Operand.tmp 58) (Go.Operand.const (Go.Value.bool false)), type := 4, pos := "outright.go:23", after := #[{ on := 10, ground := Go.Ground.data }, { on := 12, ground := Go.Ground.data }], guard := none }) (v := ?_) rfl (by kernel_rfl) (fun _ _ _ h => h) (Or.inl ⟨by rfl, fun W hW => ?_⟩) hS ?_
  rotate_left
  · (have hw1 := hW.cell 0; have hw2 := hW.cell 1; simp only [List.getElem?_toArray, List.getElem?_cons_zero, List.getElem?_cons_succ] at hw1 hw2); go_simp; (try go_bits); (try rw [if_pos (by omega)]); (try with_reducible rfl)
  (try simp only [Act.put, List.setIfInBounds_toArray, List.set_cons_succ, List.set_cons_zero])
  refine wpE_take (i := 14) (oi := { dst := some 60, op := Go.Op.move (Go.Operand.tmp 59), type := 4, pos := "outright.go:23", after := #[{ on := 13, ground := Go.Ground.data }, { on := 10, ground := Go.Ground.chain }], guard := none }) (v := ?_) rfl (by kernel_rfl) (fun _ _ _ h => h) (Or.inl ⟨by rfl, fun W hW => ?_⟩) hS ?_
  rotate_left
  · (have hw1 := hW.cell 0; have hw2 := hW.cell 1; simp only [List.getElem?_toArray, List.getElem?_cons_zero, List.getElem?_cons_succ] at hw1 hw2); go_simp; (try go_bits); (try rw [if_pos (by omega)]); (try with_reducible rfl)
  (try simp only [Act.put, List.setIfInBounds_toArray, List.set_cons_succ, List.set_cons_zero])
  refine wpE_take (i := 15) (oi := { dst := some 61, op := Go.Op.move (Go.Operand.tmp 10), type := 59, pos := "outright.go:23", after := #[{ on := 14, ground := Go.Ground.guard }, { on := 21, ground := Go.Ground.gcOnly Go.Departure.lateStores }], guard := some (14, true) }) (v := ?_) rfl (by kernel_rfl) (fun _ _ _ h => h) (Or.inl ⟨by rfl, fun W hW => ?_⟩) hS ?_
  rotate_left
  · (have hw1 := hW.cell 0; have hw2 := hW.cell 1; simp only [List.getElem?_toArray, List.getElem?_cons_zero, List.getElem?_cons_succ] at hw1 hw2); go_simp; (try go_bits); (try rw [if_pos (by omega)]); (try with_reducible rfl)
  (try simp only [Act.put, List.setIfInBounds_toArray, List.set_cons_succ, List.set_cons_zero])
  refine wpE_take (i := 16) (oi := { dst := some 62, op := Go.Op.binOp Go.BinOp.neq 59 (Go.Operand.tmp 61) (Go.Operand.const (Go.Value.pointer none)) 59, type := 4, pos := "outright.go:23", after := #[{ on := 15, ground := Go.Ground.data }, { on := 14, ground := Go.Ground.guard }, { on := 21, ground := Go.Ground.gcOnly Go.Departure.lateStores }], guard := some (14, true) }) (v := ?_) rfl (by kernel_rfl) (fun _ _ _ h => h) (Or.inl ⟨by rfl, fun W hW => ?_⟩) hS ?_
  rotate_left
  · (have hw1 := hW.cell 0; have hw2 := hW.cell 1; simp only [List.getElem?_toArray, List.getElem?_cons_zero, List.getElem?_cons_succ] at hw1 hw2); go_simp; (try go_bits); (try rw [if_pos (by omega)]); (try with_reducible rfl)
  (try simp only [Act.put, List.setIfInBounds_toArray, List.set_cons_succ, List.set_cons_zero])
  refine wpE_take (i := 17) (oi := { dst := some 63, op := Go.Op.pick (Go.Operand.tmp 60) (Go.Operand.tmp 62) (Go.Operand.const (Go.Value.bool false)), type := 4, pos := "outright.go:23", after := #[{ on := 14, ground := Go.Ground.data }, { on := 16, ground := Go.Ground.data }, { on := 21, ground := Go.Ground.gcOnly Go.Departure.lateStores }], guard := none }) (v := ?_) rfl (by kernel_rfl) (fun _ _ _ h => h) (Or.inl ⟨by rfl, fun W hW => ?_⟩) hS ?_
  rotate_left
  · (have hw1 := hW.cell 0; have hw2 := hW.cell 1; simp only [List.getElem?_toArray, List.getElem?_cons_zero, List.getElem?_cons_succ] at hw1 hw2); go_simp; (try go_bits); (try rw [if_pos (by omega)]); (try with_reducible rfl)
  (try simp only [Act.put, List.setIfInBounds_toArray, List.set_cons_succ, List.set_cons_zero])
  refine wpE_only (i := 18) (oi := { dst := some 0, op := Go.Op.assign (Go.Operand.tmp 46), type := 59, pos := "outright.go:23", after := #[{ on := 0, ground := Go.Ground.data }, { on := 14, ground := Go.Ground.chain }, { on := 0, ground := Go.Ground.phase }, { on := 1, ground := Go.Ground.textOnly Go.Departure.lateStores }, { on := 2, ground := Go.Ground.textOnly Go.Departure.lateStores }, { on := 3, ground := Go.Ground.textOnly Go.Departure.lateStores }, { on := 4, ground := Go.Ground.textOnly Go.Departure.lateStores }, { on := 5, ground := Go.Ground.textOnly Go.Departure.lateStores }, { on := 6, ground := Go.Ground.textOnly Go.Departure.lateStores }, { on := 7, ground := Go.Ground.textOnly Go.Departure.lateStores }, { on := 8, ground := Go.Ground.textOnly Go.Departure.lateStores }, { on := 9, ground := Go.Ground.textOnly Go.Departure.lateStores }, { on := 10, ground := Go.Ground.textOnly Go.Departure.lateStores }, { on := 11, ground := Go.Ground.textOnly Go.Departure.lateStores }, { on := 12, ground := Go.Ground.textOnly Go.Departure.lateStores }, { on := 13, ground := Go.Ground.textOnly Go.Departure.lateStores }, { on := 14, ground := Go.Ground.textOnly Go.Departure.lateStores }, { on := 15, ground := Go.Ground.textOnly Go.Departure.lateStores }, { on := 16, ground := Go.Ground.textOnly Go.Departure.lateStores }, { on := 17, ground := Go.Ground.textOnly Go.Departure.lateStores }], guard := none }) rfl (by kernel_rfl) (by rfl) (fun K hK => ?_)
  go_simp; (try go_bits); refine hK _ _ hS ?_; clear hK K
  (try simp only [Act.put, List.setIfInBounds_toArray, List.set_cons_succ, List.set_cons_zero])
  refine wpE_only (i := 19) (oi := { dst := some 1, op := Go.Op.assign (Go.Operand.tmp 47), type := 59, pos := "outright.go:23", after := #[{ on := 1, ground := Go.Ground.data }, { on := 18, ground := Go.Ground.chain }, { on := 0, ground := Go.Ground.phase }, { on := 1, ground := Go.Ground.phase }, { on := 2, ground := Go.Ground.textOnly Go.Departure.lateStores }, { on := 3, ground := Go.Ground.textOnly Go.Departure.lateStores }, { on := 4, ground := Go.Ground.textOnly Go.Departure.lateStores }, { on := 5, ground := Go.Ground.textOnly Go.Departure.lateStores }, { on := 6, ground := Go.Ground.textOnly Go.Departure.lateStores }, { on := 7, ground := Go.Ground.textOnly Go.Departure.lateStores }, { on := 8, ground := Go.Ground.textOnly Go.Departure.lateStores }, { on := 9, ground := Go.Ground.textOnly Go.Departure.lateStores }, { on := 10, ground := Go.Ground.textOnly Go.Departure.lateStores }, { on := 11, ground := Go.Ground.textOnly Go.Departure.lateStores }, { on := 12, ground := Go.Ground.textOnly Go.Departure.lateStores }, { on := 13, ground := Go.Ground.textOnly Go.Departure.lateStores }, { on := 14, ground := Go.Ground.textOnly Go.Departure.lateStores }, { on := 15, ground := Go.Ground.textOnly Go.Departure.lateStores }, { on := 16, ground := Go.Ground.textOnly Go.Departure.lateStores }, { on := 17, ground := Go.Ground.textOnly Go.Departure.lateStores }, { on := 18, ground := Go.Ground.phase }], guard := none }) rfl (by kernel_rfl) (by rfl) (fun K hK => ?_)
  go_simp; (try go_bits); refine hK _ _ hS ?_; clear hK K
  (try simp only [Act.put, List.setIfInBounds_toArray, List.set_cons_succ, List.set_cons_zero])
  refine wpE_only (i := 20) (oi := { dst := some 2, op := Go.Op.assign (Go.Operand.tmp 48), type := 31, pos := "outright.go:23", after := #[{ on := 2, ground := Go.Ground.data }, { on := 19, ground := Go.Ground.chain }, { on := 0, ground := Go.Ground.phase }, { on := 1, ground := Go.Ground.phase }, { on := 2, ground := Go.Ground.phase }, { on := 3, ground := Go.Ground.textOnly Go.Departure.lateStores }, { on := 4, ground := Go.Ground.textOnly Go.Departure.lateStores }, { on := 5, ground := Go.Ground.textOnly Go.Departure.lateStores }, { on := 6, ground := Go.Ground.textOnly Go.Departure.lateStores }, { on := 7, ground := Go.Ground.textOnly Go.Departure.lateStores }, { on := 8, ground := Go.Ground.textOnly Go.Departure.lateStores }, { on := 9, ground := Go.Ground.textOnly Go.Departure.lateStores }, { on := 10, ground := Go.Ground.textOnly Go.Departure.lateStores }, { on := 11, ground := Go.Ground.textOnly Go.Departure.lateStores }, { on := 12, ground := Go.Ground.textOnly Go.Departure.lateStores }, { on := 13, ground := Go.Ground.textOnly Go.Departure.lateStores }, { on := 14, ground := Go.Ground.textOnly Go.Departure.lateStores }, { on := 15, ground := Go.Ground.textOnly Go.Departure.lateStores }, { on := 16, ground := Go.Ground.textOnly Go.Departure.lateStores }, { on := 17, ground := Go.Ground.textOnly Go.Departure.lateStores }, { on := 18, ground := Go.Ground.phase }, { on := 19, ground := Go.Ground.phase }], guard := none }) rfl (by kernel_rfl) (by rfl) (fun K hK => ?_)
  go_simp; (try go_bits); refine hK _ _ hS ?_; clear hK K
  (try simp only [Act.put, List.setIfInBounds_toArray, List.set_cons_succ, List.set_cons_zero])
  refine wpE_only (i := 21) (oi := { dst := none, op := Go.Op.store 27 (Go.Operand.tmp 3) (Go.Operand.tmp 49), type := 0, pos := "outright.go:23", after := #[{ on := 3, ground := Go.Ground.data }, { on := 20, ground := Go.Ground.chain }, { on := 0, ground := Go.Ground.phase }, { on := 1, ground := Go.Ground.phase }, { on := 2, ground := Go.Ground.phase }, { on := 3, ground := Go.Ground.phase }, { on := 4, ground := Go.Ground.textOnly Go.Departure.lateStores }, { on := 5, ground := Go.Ground.textOnly Go.Departure.lateStores }, { on := 6, ground := Go.Ground.textOnly Go.Departure.lateStores }, { on := 7, ground := Go.Ground.textOnly Go.Departure.lateStores }, { on := 8, ground := Go.Ground.textOnly Go.Departure.lateStores }, { on := 9, ground := Go.Ground.textOnly Go.Departure.lateStores }, { on := 10, ground := Go.Ground.textOnly Go.Departure.lateStores }, { on := 11, ground := Go.Ground.textOnly Go.Departure.lateStores }, { on := 12, ground := Go.Ground.textOnly Go.Departure.lateStores }, { on := 13, ground := Go.Ground.textOnly Go.Departure.lateStores }, { on := 14, ground := Go.Ground.textOnly Go.Departure.lateStores }, { on := 15, ground := Go.Ground.textOnly Go.Departure.lateStores }, { on := 16, ground := Go.Ground.textOnly Go.Departure.lateStores }, { on := 17, ground := Go.Ground.textOnly Go.Departure.lateStores }, { on := 18, ground := Go.Ground.phase }, { on := 19, ground := Go.Ground.phase }, { on := 20, ground := Go.Ground.phase }], guard := none }) rfl (by kernel_rfl) (by rfl) (fun K hK => ?_)
  go_simp
  have hS := ((hbx.far (p := ⟨vb, 0, none⟩) hne (.pointer (some ⟨p1, 0, none⟩))).far (p := ⟨vb, 1, none⟩) hne (.pointer (some ⟨p2, 0, none⟩)))
  refine hK _ _ hS ?_; clear hK K
  (try simp only [Act.put, List.setIfInBounds_toArray, List.set_cons_succ, List.set_cons_zero])
  refine wpE_last (oi := { dst := some 4, op := Go.Op.assign (Go.Operand.tmp 63), type := 4, pos := "outright.go:23", after := #[{ on := 17, ground := Go.Ground.data }, { on := 21, ground := Go.Ground.chain }, { on := 0, ground := Go.Ground.phase }, { on := 1, ground := Go.Ground.phase }, { on := 2, ground := Go.Ground.phase }, { on := 3, ground := Go.Ground.phase }, { on := 4, ground := Go.Ground.phase }, { on := 5, ground := Go.Ground.phase }, { on := 6, ground := Go.Ground.phase }, { on := 7, ground := Go.Ground.phase }, { on := 8, ground := Go.Ground.phase }, { on := 9, ground := Go.Ground.phase }, { on := 10, ground := Go.Ground.phase }, { on := 11, ground := Go.Ground.phase }, { on := 12, ground := Go.Ground.phase }, { on := 13, ground := Go.Ground.phase }, { on := 14, ground := Go.Ground.phase }, { on := 15, ground := Go.Ground.phase }, { on := 16, ground := Go.Ground.phase }, { on := 17, ground := Go.Ground.phase }, { on := 18, ground := Go.Ground.phase }, { on := 19, ground := Go.Ground.phase }, { on := 20, ground := Go.Ground.phase }, { on := 21, ground := Go.Ground.phase }], guard := none }) rfl (by kernel_rfl) (by kernel_rfl) (by rfl) (fun K hK => ?_)
  go_simp; (try go_bits); refine hK _ _ ?_; clear hK K
  go_wp2
  have hBB := (H6.out.2.2.2.1.set_ 0 (.pointer (some ⟨p1, 0, none⟩))).set_ 1 (.pointer (some ⟨p2, 0, none⟩))
  have hst : Step (fun x => x = 0) own7 w6.drew own7 ((w6.drew.setCell ⟨vb, 0, none⟩ (.pointer (some ⟨p1, 0, none⟩))).setCell ⟨vb, 1, none⟩ (.pointer (some ⟨p2, 0, none⟩))) :=
    ⟨((Upd.refl _ _).setCell (.inl H6.out.2.2.2.2) _).setCell (.inl H6.out.2.2.2.2) _, fun _ _ => rfl⟩
  have hlv : w.heap.size ≤ vb := HV2.out
  refine bodyPost_ret (results_spaces rfl _ _ vb 27 #[.pointer (some ⟨p1, 0, none⟩), .pointer (some ⟨p2, 0, none⟩)] _ rfl hBB Try.underlying27 rfl (by kernel_rfl)) rfl ?_
  refine ⟨sa, sb, pp, p1, ⟨p2, rfl⟩, own7, ⟨((H6.out.1.upd).setCell (.inr hlv) _).setCell (.inr hlv) _, H6.out.1.old⟩, ?_, ?_⟩
  · exact H6.out.2.1.step hst (by decide)
  · exact H6.out.2.2.1.step hst (by decide) (by decide)
end Go.Proofs.Ytpodeclkgcgpgaa
