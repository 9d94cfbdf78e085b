import Derived.Test.YtonhlgfgbdiapaaGreatEr3
/- The document's engine: Step, for any way. -/
namespace Go.Proofs.YtonhlgfgbdiapaaGreat
set_option linter.unusedVariables false
set_option linter.unusedSimpArgs false
open Go.RowKit
set_option maxRecDepth 100000
section
variable {own own' : Nat → Nat} {c q p2 : Nat} {dev : Int} {uv : Value} {w w' : World} {t t' : Eg}
structure WayD (c q p2 : Nat) (V : Nat → (Nat → Nat) → World → Prop) (C : Nat → Prop) (dev : Int) (uv : Value) (t : Eg) (o1 o2 : Bool) (f1 f2 v : Nat) (R : Nat → Int × Int × Bool) : Prop where
  hC : ¬ C c
  b1 : f1 < 18446744073709551616
  b2 : f2 < 18446744073709551616
  bv : v < 18446744073709551616
  A1 : ∀ own w, ErAt own c w q dev (.pointer (some ⟨p2, 0, none⟩)) uv t → V 0 own w → Calls Tryz.prog 74 #[.pointer (some ⟨q, 0, none⟩), .int .u64 (((t.rg 0 + t.cp) % 18446744073709551616 : Nat) : Int), .bool false] w fun x w' => x = .returned (.tuple #[.int .u64 (f1 : Int), .bool o1]) ∧ ∃ own', Step C own w own' w' ∧ V 1 own' w'
  A2 : o1 = true → ∀ own w, ErAt own c w q dev (.pointer (some ⟨p2, 0, none⟩)) uv t → V 1 own w → Calls Tryz.prog 74 #[.pointer (some ⟨q, 0, none⟩), .int .u64 (((t.rg 8 + t.cp) % 18446744073709551616 : Nat) : Int), .bool true] w fun x w' => x = .returned (.tuple #[.int .u64 (f2 : Int), .bool o2]) ∧ ∃ own', Step C own w own' w' ∧ V 2 own' w'
  rd : o1 = true → o2 = true → ∀ own w, V 2 own w → Calls Tryz.prog 76 #[.pointer (some ⟨p2, 0, none⟩), .int .u64 (f1 : Int), .int .i64 8] w fun x w' => ∃ g, x = .returned (.tuple #[.int .u64 (v : Int), .bool g]) ∧ ∃ own', Step C own w own' w' ∧ V 3 own' w'
  wr : o1 = true → o2 = true → ∀ own w, V 3 own w → Calls Tryz.prog 71 #[.pointer (some ⟨p2, 0, none⟩), .int .u64 (f2 : Int), .int .i64 8, .int .u64 (v : Int)] w fun x w' => ∃ g, x = .returned (.bool g) ∧ ∃ own', Step C own w own' w' ∧ V 4 own' w'
  ms : ∀ i, i = atE o1 o2 → ∀ (t' : Eg), t'.rg = t.rg → ∀ own w, ErAt own c w q dev (.pointer (some ⟨p2, 0, none⟩)) uv t' → V i own w → Calls Tryz.prog 75 #[.pointer (some ⟨q, 0, none⟩)] w fun x w' => x = .returned (.tuple #[.agg #[.int .i64 (if t.rg 40 = 0 then (0, 0, false) else R i).1, .int .i64 (if t.rg 40 = 0 then (0, 0, false) else R i).2.1], .bool (if t.rg 40 = 0 then (0, 0, false) else R i).2.2]) ∧ ∃ own', Step C own w own' w' ∧ V (if t.rg 40 = 0 then i else i + 10) own' w'
structure ED (V : Nat → (Nat → Nat) → World → Prop) (C : Nat → Prop) (own0 : Nat → Nat) (w0 : World) (own : Nat → Nat) (w : World) (c q p2 lb : Nat) (dev : Int) (uv : Value) (t : Eg) (i : Nat) : Prop where
  st : Step (fun x => x = c ∨ C x) own0 w0 own w
  er : ErAt own c w q dev (.pointer (some ⟨p2, 0, none⟩)) uv t
  v : V i own w
  bl : Blk w lb 47 #[.int .i64 0, .int .i64 0]
  ol : own lb = c
  ne : q ≠ lb
section
variable {V : Nat → (Nat → Nat) → World → Prop} {C : Nat → Prop} {own0 own1 : Nat → Nat} {w0 w1 : World} {lb i j : Nat}
theorem ED.call (h : ED V C own0 w0 own w c q p2 lb dev uv t i) (hC : ¬ C c) (hS : Step C own w own1 w1) (hv : V j own1 w1) : ED V C own0 w0 own1 w1 c q p2 lb dev uv t j :=
  ⟨h.st.trans (hS.mono (fun _ hx => .inr hx)), h.er.step hS hC, hv, (hS.blk h.bl h.ol hC).1, (hS.blk h.bl h.ol hC).2, h.ne⟩
theorem ED.put (h : ED V C own0 w0 own w c q p2 lb dev uv t i) (hV : ∀ i own w own' w', V i own w → Step (· = c) own w own' w' → V i own' w') (k : Nat) (x : Value) (he : erC dev (.pointer (some ⟨p2, 0, none⟩)) uv t' = (erC dev (.pointer (some ⟨p2, 0, none⟩)) uv t).setIfInBounds k x) :
    ED V C own0 w0 own (w.setCell ⟨q, k, none⟩ x) c q p2 lb dev uv t' i := by
  obtain ⟨hS, hE⟩ := h.er.put (t' := t') k x he
  exact ⟨h.st.trans (hS.mono (fun _ hx => .inl hx)), hE, hV _ _ _ _ _ h.v hS, h.bl.upd ((Upd.refl (· = q) w).setCell (p := ⟨q, k, none⟩) (.inl rfl) _) (fun h' => h.ne h'.symm), h.ol, h.ne⟩
theorem ED.loc (h : ED V C own0 w0 own w c q p2 lb dev uv t i) : w.cell? ⟨lb, 0, none⟩ = some (.int .i64 0) ∧ w.cell? ⟨lb, 1, none⟩ = some (.int .i64 0) ∧ w.frozen? ⟨lb, 0, none⟩ = false ∧ w.frozen? ⟨lb, 1, none⟩ = false ∧ lb < w.heap.size :=
  ⟨h.bl.cell 0, h.bl.cell 1, h.bl.frozen 0, h.bl.frozen 1, h.bl.lt⟩
theorem ED.lset (h : ED V C own0 w0 own w c q p2 lb dev uv t i) (hV : ∀ i own w own' w', V i own w → Step (· = c) own w own' w' → V i own' w') (x y : Int) :
    Step (fun x => x = c ∨ C x) own0 w0 own ((w.setCell ⟨lb, 0, none⟩ (.int .i64 x)).setCell ⟨lb, 1, none⟩ (.int .i64 y)) ∧ ErAt own c ((w.setCell ⟨lb, 0, none⟩ (.int .i64 x)).setCell ⟨lb, 1, none⟩ (.int .i64 y)) q dev (.pointer (some ⟨p2, 0, none⟩)) uv t ∧ V i own ((w.setCell ⟨lb, 0, none⟩ (.int .i64 x)).setCell ⟨lb, 1, none⟩ (.int .i64 y)) ∧ Blk ((w.setCell ⟨lb, 0, none⟩ (.int .i64 x)).setCell ⟨lb, 1, none⟩ (.int .i64 y)) lb 47 #[.int .i64 x, .int .i64 y] := by
  have hU : Upd (· = lb) w ((w.setCell ⟨lb, 0, none⟩ (.int .i64 x)).setCell ⟨lb, 1, none⟩ (.int .i64 y)) := ((Upd.refl (· = lb) w).setCell (p := ⟨lb, 0, none⟩) (.inl rfl) _).setCell (p := ⟨lb, 1, none⟩) (.inl rfl) _
  have hS : Step (· = c) own w own ((w.setCell ⟨lb, 0, none⟩ (.int .i64 x)).setCell ⟨lb, 1, none⟩ (.int .i64 y)) := ⟨hU.mono (fun i _ hi => by rw [hi]; exact h.ol), fun _ _ => rfl⟩
  exact ⟨h.st.trans (hS.mono (fun _ hx => .inl hx)), ⟨h.er.1.upd hU h.ne, h.er.2⟩, hV _ _ _ _ _ h.v hS, (h.bl.set_ 0 (.int .i64 x)).set_ 1 (.int .i64 y)⟩
theorem ED.drew (h : ED V C own0 w0 own w c q p2 lb dev uv t i) (hV : ∀ i own w own' w', V i own w → Step (· = c) own w own' w' → V i own' w') : ED V C own0 w0 own w.drew c q p2 lb dev uv t i :=
  ⟨h.st.trans ((Step.refl _ _ _).drew), h.er.step ((Step.refl (fun _ => False) _ _).drew) (fun x => x), hV _ _ _ _ _ h.v ((Step.refl _ _ _).drew), h.bl, h.ol, h.ne⟩
theorem ED.alloc (h : ErAt own c w q dev (.pointer (some ⟨p2, 0, none⟩)) uv t) (hV : ∀ i own w own' w', V i own w → Step (· = c) own w own' w' → V i own' w') (hv : V i own w) (cs : Array Value) (hcs : cs = #[.int .i64 0, .int .i64 0]) : ED V C own w (ext own w c) (w.alloc (.cells cs 47)) c q p2 w.heap.size dev uv t i := by
  subst hcs
  have hst : ∀ D : Nat → Prop, Step D own w (ext own w c) (w.alloc (.cells #[.int .i64 0, .int .i64 0] 47)) := fun D => ⟨(Upd.refl _ _).alloc _, fun b hb => ext_old _ _ _ hb⟩
  exact ⟨hst _, h.step (hst (fun _ => False)) (fun x => x), hV _ _ _ _ _ hv (hst _), Blk.new _ _ _, ext_new _ _ _ (Nat.le_refl _), Nat.ne_of_lt h.1.lt⟩
end
set_option maxHeartbeats 4000000 in
theorem eref_StepG {V : Nat → (Nat → Nat) → World → Prop} {C : Nat → Prop} {o1 o2 : Bool} {f1 f2 v : Nat} {R : Nat → Int × Int × Bool}
    (h : ErAt own c w q dev (.pointer (some ⟨p2, 0, none⟩)) uv t) (hok : ErOk t) (H : t.st = 1 → WayD c q p2 V C dev uv t o1 o2 f1 f2 v R) (hV : ∀ i own w own' w', V i own w → Step (· = c) own w own' w' → V i own' w') (hv : V 0 own w) :
    Calls Tryz.prog 50 #[.pointer (some ⟨q, 0, none⟩)] w fun x w' => x = .returned (.tuple #[.agg #[.int .i64 (resE t o1 o2 R).1, .int .i64 (resE t o1 o2 R).2.1], .bool (resE t o1 o2 R).2.2]) ∧
      ∃ own', Step (fun x => x = c ∨ C x) own w own' w' ∧ ErAt own' c w' q dev (.pointer (some ⟨p2, 0, none⟩)) uv (nextE t o1 o2) ∧ V (whichE t o1 o2) own' w' := by
  have hE0 := ED.alloc (C := C) h hV hv _ rfl
  obtain ⟨_, _, _, _, _, _, c7, _, _, _, hlt⟩ := hE0.er.cells
  by_cases hs : t.st = 1
  · have HG := H hs
    have es : ((t.st : Int) != 1) = false := by rw [hs]; rfl
    rw [hs] at c7
    have hE1 := hE0.drew hV
    have hA := HG.A1 _ _ hE1.er hE1.v
    rw [wrapN] at hA
    have HA := Lib.hid hA
    obtain ⟨_, _, _, k3, _, _, _, _, _, k10, _⟩ := hE0.er.cells
    have hcp := hok.cp
    have hr0 := hok.rg 0
    have HE := Lib.hid hE1
    clear H h hE0 hE1 hA
    have hS : (fun (W' : World) => W'.cell? ⟨q, 3, none⟩ = some (.int .u64 (t.rg 0 : Int)) ∧ W'.cell? ⟨q, 10, none⟩ = some (.int .u64 (t.cp : Int))) (w.alloc (.cells #[.int .i64 0, .int .i64 0] 47)) := ⟨k3, k10⟩
    go_enter Tryz.func50, Tryz.ntmps50
    go_wp2_with fail
    refine wpE_region (S := fun (W' : World) => W'.cell? ⟨q, 3, none⟩ = some (.int .u64 (t.rg 0 : Int)) ∧ W'.cell? ⟨q, 10, none⟩ = some (.int .u64 (t.cp : Int))) (s := 16) (by kernel_rfl) ?_
    have hS : (fun (W' : World) => W'.cell? ⟨q, 3, none⟩ = some (.int .u64 (t.rg 0 : Int)) ∧ W'.cell? ⟨q, 10, none⟩ = some (.int .u64 (t.cp : Int))) _ := hS
    refine wpE_take (i := 0) (oi := { dst := some 17, op := Go.Op.move (Go.Operand.tmp 0), type := 71, pos := "ref.go:127", after := #[], guard := none }) (v := ?_) rfl (by kernel_rfl) (fun _ _ _ h => h) (Or.inl ⟨by rfl, fun W hW => ?_⟩) hS ?_
    rotate_left
    · obtain ⟨hw1, hw2⟩ := hW; go_simp; (try go_bits); (try rw [if_pos (by omega)]); (try with_reducible rfl)
    (try simp only [Act.put, List.setIfInBounds_toArray, List.set_cons_succ, List.set_cons_zero])
    refine wpE_take (i := 1) (oi := { dst := some 18, op := Go.Op.move (Go.Operand.tmp 0), type := 71, pos := "ref.go:127", after := #[], guard := none }) (v := ?_) rfl (by kernel_rfl) (fun _ _ _ h => h) (Or.inl ⟨by rfl, fun W hW => ?_⟩) hS ?_
    rotate_left
    · obtain ⟨hw1, hw2⟩ := hW; go_simp; (try go_bits); (try rw [if_pos (by omega)]); (try with_reducible rfl)
    (try simp only [Act.put, List.setIfInBounds_toArray, List.set_cons_succ, List.set_cons_zero])
    refine wpE_take (i := 2) (oi := { dst := some 19, op := Go.Op.nilCheck (Go.Operand.tmp 18), type := 0, pos := "ref.go:127", after := #[{ on := 1, ground := Go.Ground.data }], guard := none }) (v := ?_) rfl (by kernel_rfl) (fun _ _ _ h => h) (Or.inl ⟨by rfl, fun W hW => ?_⟩) hS ?_
    rotate_left
    · obtain ⟨hw1, hw2⟩ := hW; go_simp; (try go_bits); (try rw [if_pos (by omega)]); (try with_reducible rfl)
    (try simp only [Act.put, List.setIfInBounds_toArray, List.set_cons_succ, List.set_cons_zero])
    refine wpE_take (i := 3) (oi := { dst := some 20, op := Go.Op.fieldAddr 74 (Go.Operand.tmp 19) 3, type := 0, pos := "ref.go:127", after := #[{ on := 2, ground := Go.Ground.data }], guard := none }) (v := ?_) rfl (by kernel_rfl) (fun _ _ _ h => h) (Or.inl ⟨by rfl, fun W hW => ?_⟩) hS ?_
    rotate_left
    · obtain ⟨hw1, hw2⟩ := hW; go_simp; (try go_bits); (try rw [if_pos (by omega)]); (try with_reducible rfl)
    (try simp only [Act.put, List.setIfInBounds_toArray, List.set_cons_succ, List.set_cons_zero])
    refine wpE_take (i := 4) (oi := { dst := some 21, op := Go.Op.indexAddr 72 (Go.Operand.tmp 20) (Go.Operand.const (Go.Value.int Go.IntKind.i64 0)), type := 0, pos := "ref.go:127", after := #[{ on := 3, ground := Go.Ground.data }], guard := none }) (v := ?_) rfl (by kernel_rfl) (fun _ _ _ h => h) (Or.inl ⟨by rfl, fun W hW => ?_⟩) hS ?_
    rotate_left
    · obtain ⟨hw1, hw2⟩ := hW; go_simp; (try go_bits); (try rw [if_pos (by omega)]); (try with_reducible rfl)
    (try simp only [Act.put, List.setIfInBounds_toArray, List.set_cons_succ, List.set_cons_zero])
    refine wpE_take (i := 5) (oi := { dst := some 22, op := Go.Op.load 23 (Go.Operand.tmp 21), type := 23, pos := "ref.go:127", after := #[{ on := 4, ground := Go.Ground.data }], guard := none }) (v := ?_) rfl (by kernel_rfl) (fun _ _ _ h => h) (Or.inl ⟨by rfl, fun W hW => ?_⟩) hS ?_
    rotate_left
    · obtain ⟨hw1, hw2⟩ := hW; go_simp; (try go_bits); (try rw [if_pos (by omega)]); (try with_reducible rfl)
    (try simp only [Act.put, List.setIfInBounds_toArray, List.set_cons_succ, List.set_cons_zero])
    refine wpE_take (i := 6) (oi := { dst := some 23, op := Go.Op.move (Go.Operand.tmp 0), type := 71, pos := "ref.go:127", after := #[], guard := none }) (v := ?_) rfl (by kernel_rfl) (fun _ _ _ h => h) (Or.inl ⟨by rfl, fun W hW => ?_⟩) hS ?_
    rotate_left
    · obtain ⟨hw1, hw2⟩ := hW; go_simp; (try go_bits); (try rw [if_pos (by omega)]); (try with_reducible rfl)
    (try simp only [Act.put, List.setIfInBounds_toArray, List.set_cons_succ, List.set_cons_zero])
    refine wpE_take (i := 7) (oi := { dst := some 24, op := Go.Op.nilCheck (Go.Operand.tmp 23), type := 0, pos := "ref.go:127", after := #[{ on := 6, ground := Go.Ground.data }], guard := none }) (v := ?_) rfl (by kernel_rfl) (fun _ _ _ h => h) (Or.inl ⟨by rfl, fun W hW => ?_⟩) hS ?_
    rotate_left
    · obtain ⟨hw1, hw2⟩ := hW; go_simp; (try go_bits); (try rw [if_pos (by omega)]); (try with_reducible rfl)
    (try simp only [Act.put, List.setIfInBounds_toArray, List.set_cons_succ, List.set_cons_zero])
    refine wpE_take (i := 8) (oi := { dst := some 25, op := Go.Op.fieldAddr 74 (Go.Operand.tmp 24) 4, type := 0, pos := "ref.go:127", after := #[{ on := 7, ground := Go.Ground.data }], guard := none }) (v := ?_) rfl (by kernel_rfl) (fun _ _ _ h => h) (Or.inl ⟨by rfl, fun W hW => ?_⟩) hS ?_
    rotate_left
    · obtain ⟨hw1, hw2⟩ := hW; go_simp; (try go_bits); (try rw [if_pos (by omega)]); (try with_reducible rfl)
    (try simp only [Act.put, List.setIfInBounds_toArray, List.set_cons_succ, List.set_cons_zero])
    refine wpE_take (i := 9) (oi := { dst := some 26, op := Go.Op.load 23 (Go.Operand.tmp 25), type := 23, pos := "ref.go:127", after := #[{ on := 8, ground := Go.Ground.data }], guard := none }) (v := ?_) rfl (by kernel_rfl) (fun _ _ _ h => h) (Or.inl ⟨by rfl, fun W hW => ?_⟩) hS ?_
    rotate_left
    · obtain ⟨hw1, hw2⟩ := hW; go_simp; (try go_bits); (try rw [if_pos (by omega)]); (try with_reducible rfl)
    (try simp only [Act.put, List.setIfInBounds_toArray, List.set_cons_succ, List.set_cons_zero])
    refine wpE_take (i := 10) (oi := { dst := some 27, op := Go.Op.binOp Go.BinOp.add 23 (Go.Operand.tmp 22) (Go.Operand.tmp 26) 23, type := 23, pos := "ref.go:127", after := #[{ on := 5, ground := Go.Ground.data }, { on := 9, ground := Go.Ground.data }], guard := none }) (v := ?_) rfl (by kernel_rfl) (fun _ _ _ h => h) (Or.inl ⟨by rfl, fun W hW => ?_⟩) hS ?_
    rotate_left
    · obtain ⟨hw1, hw2⟩ := hW; go_simp; (try go_bits); (try rw [if_pos (by omega)]); (try with_reducible rfl)
    (try simp only [Act.put, List.setIfInBounds_toArray, List.set_cons_succ, List.set_cons_zero])
    refine wpE_only (i := 11) (oi := { dst := some 28, op := Go.Op.call { callee := Go.Callee.value (Go.Operand.func 74), args := #[Go.Operand.tmp 17, Go.Operand.tmp 27, Go.Operand.const (Go.Value.bool false)], argTypes := #[71, 23, 4] }, type := 52, pos := "ref.go:127", after := #[{ on := 0, ground := Go.Ground.data }, { on := 10, ground := Go.Ground.data }], guard := none }) rfl (by kernel_rfl) (by rfl) (fun K hK => ?_)
    go_simp; refine HA.out.mono ?_; rintro x w2 ⟨rfl, own2, hS2, hV2⟩
    have hE2 := HE.out.call HG.hC hS2 hV2
    obtain ⟨_, _, _, y3, _, _, _, _, _, y10, _⟩ := hE2.er.cells
    have HE2 := Lib.hid hE2
    clear HE HA hS2 hV2 hE2 hS
    have hS : (fun (W' : World) => W'.cell? ⟨q, 3, none⟩ = some (.int .u64 (t.rg 0 : Int)) ∧ W'.cell? ⟨q, 10, none⟩ = some (.int .u64 (t.cp : Int))) w2 := ⟨y3, y10⟩
    refine hK _ _ hS ?_; clear hK K
    (try simp only [Act.put, List.setIfInBounds_toArray, List.set_cons_succ, List.set_cons_zero])
    refine wpE_take (i := 12) (oi := { dst := some 16, op := Go.Op.move (Go.Operand.tmp 28), type := 52, pos := "ref.go:127", after := #[{ on := 11, ground := Go.Ground.data }], guard := none }) (v := ?_) rfl (by kernel_rfl) (fun _ _ _ h => h) (Or.inl ⟨by rfl, fun W hW => ?_⟩) hS ?_
    rotate_left
    · obtain ⟨hw1, hw2⟩ := hW; go_simp; (try go_bits); (try rw [if_pos (by omega)]); (try with_reducible rfl)
    (try simp only [Act.put, List.setIfInBounds_toArray, List.set_cons_succ, List.set_cons_zero])
    refine wpE_take (i := 13) (oi := { dst := some 29, op := Go.Op.extract (Go.Operand.tmp 16) 0, type := 23, pos := "ref.go:127", after := #[{ on := 12, ground := Go.Ground.data }], guard := none }) (v := ?_) rfl (by kernel_rfl) (fun _ _ _ h => h) (Or.inl ⟨by rfl, fun W hW => ?_⟩) hS ?_
    rotate_left
    · obtain ⟨hw1, hw2⟩ := hW; go_simp; (try go_bits); (try rw [if_pos (by omega)]); (try with_reducible rfl)
    (try simp only [Act.put, List.setIfInBounds_toArray, List.set_cons_succ, List.set_cons_zero])
    refine wpE_take (i := 14) (oi := { dst := some 30, op := Go.Op.extract (Go.Operand.tmp 16) 1, type := 4, pos := "ref.go:127", after := #[{ on := 12, ground := Go.Ground.data }, { on := 15, ground := Go.Ground.gcOnly Go.Departure.lateStores }], guard := none }) (v := ?_) rfl (by kernel_rfl) (fun _ _ _ h => h) (Or.inl ⟨by rfl, fun W hW => ?_⟩) hS ?_
    rotate_left
    · obtain ⟨hw1, hw2⟩ := hW; go_simp; (try go_bits); (try rw [if_pos (by omega)]); (try with_reducible rfl)
    (try simp only [Act.put, List.setIfInBounds_toArray, List.set_cons_succ, List.set_cons_zero])
    refine wpE_only (i := 15) (oi := { dst := some 4, op := Go.Op.assign (Go.Operand.tmp 29), type := 23, pos := "ref.go:127", after := #[{ on := 13, ground := Go.Ground.data }, { on := 11, ground := Go.Ground.chain }, { on := 0, ground := Go.Ground.phase }, { on := 1, ground := Go.Ground.phase }, { on := 2, ground := Go.Ground.phase }, { on := 3, ground := Go.Ground.phase }, { on := 4, ground := Go.Ground.phase }, { on := 5, ground := Go.Ground.phase }, { on := 6, ground := Go.Ground.phase }, { on := 7, ground := Go.Ground.phase }, { on := 8, ground := Go.Ground.phase }, { on := 9, ground := Go.Ground.phase }, { on := 10, ground := Go.Ground.phase }, { on := 11, ground := Go.Ground.phase }, { on := 12, ground := Go.Ground.phase }, { on := 13, ground := Go.Ground.phase }, { on := 14, ground := Go.Ground.textOnly Go.Departure.lateStores }], guard := none }) rfl (by kernel_rfl) (by rfl) (fun K hK => ?_)
    go_simp; (try go_bits); refine hK _ _ hS ?_; clear hK K
    (try simp only [Act.put, List.setIfInBounds_toArray, List.set_cons_succ, List.set_cons_zero])
    refine wpE_last (oi := { dst := some 5, op := Go.Op.assign (Go.Operand.tmp 30), type := 4, pos := "ref.go:127", after := #[{ on := 14, ground := Go.Ground.data }, { on := 15, ground := Go.Ground.chain }, { on := 0, ground := Go.Ground.phase }, { on := 1, ground := Go.Ground.phase }, { on := 2, ground := Go.Ground.phase }, { on := 3, ground := Go.Ground.phase }, { on := 4, ground := Go.Ground.phase }, { on := 5, ground := Go.Ground.phase }, { on := 6, ground := Go.Ground.phase }, { on := 7, ground := Go.Ground.phase }, { on := 8, ground := Go.Ground.phase }, { on := 9, ground := Go.Ground.phase }, { on := 10, ground := Go.Ground.phase }, { on := 11, ground := Go.Ground.phase }, { on := 12, ground := Go.Ground.phase }, { on := 13, ground := Go.Ground.phase }, { on := 14, ground := Go.Ground.phase }, { on := 15, ground := Go.Ground.phase }], guard := none }) rfl (by kernel_rfl) (by kernel_rfl) (by rfl) (fun K hK => ?_)
    go_simp; (try go_bits); refine hK _ _ ?_; clear hK K
    clear hS k3 k10
    have hE := HE2.out
    clear HE2 y3 y10 c7
    cases o1 with
    | false =>
      have hp2 := hE.put (t' := { t with st := 3 }) hV 7 (.int .u64 3) rfl
      obtain ⟨k0, k1, k2, k3, k4, k5, k7, k8, k9, k10, kl⟩ := hE.er.cells
      have z7 := hE.er.froz 7
      obtain ⟨l0, l1, g0, g1, ll⟩ := hE.loc
      have hne := hE.ne
      generalize w.heap.size = lb at *
      have hnx : nextE t false o2 = { t with st := 3 } := by unfold nextE; rw [if_pos hs]; rfl
      have HX := Lib.hid (show resE t false o2 R = (if t.rg 40 = 0 then (0, 0, false) else R 1) ∧ whichE t false o2 = (if t.rg 40 = 0 then 1 else 1 + 10) ∧ nextE t false o2 = { t with st := 3 } from ⟨by simp [resE, hs, hnx, atE], by simp [whichE, hs, hnx, atE], hnx⟩)
      have HM := Lib.hid (HG.ms 1 rfl ({ t with st := 3 }) rfl _ _ hp2.er hp2.v)
      obtain ⟨R3, hR3⟩ : ∃ R3, (if t.rg 40 = 0 then (0, 0, false) else R 1) = R3 := ⟨_, rfl⟩
      rw [hR3] at HX HM
      have HP := Lib.hid hp2
      clear hE hp2 hnx hs hR3
      go_wp2_with fail
      ((with_reducible refine HM.out.mono ?_); rintro x w9 ⟨rfl, own9, hS9, hV9⟩)
      have hE9 := HP.out.call HG.hC hS9 hV9
      obtain ⟨l0, l1, g0, g1, ll⟩ := hE9.loc
      have HE9 := Lib.hid (hE9.lset hV R3.1 R3.2.1)
      clear HP HM hS9 hV9 hE9
      go_wp2
      refine bodyPost_ret (results_cell_tmp_row rfl _ _ lb 47 #[.int .i64 R3.1, .int .i64 R3.2.1] _ rfl HE9.out.2.2.2 Tryz.underlying47 rfl (by kernel_rfl)) rfl ?_
      rw [HX.out.1, HX.out.2.1, HX.out.2.2]
      exact ⟨rfl, _, HE9.out.1, HE9.out.2.1, HE9.out.2.2.1⟩
    | true =>
      have hEd := hE.drew hV
      have hA := HG.A2 rfl _ _ hEd.er hEd.v
      rw [wrapN] at hA
      have HA := Lib.hid hA
      obtain ⟨_, _, _, _, k4, _, _, _, _, k10, _⟩ := hE.er.cells
      have hr8 := hok.rg 8
      have HE := Lib.hid hEd
      clear hE hEd hA
      have hS : (fun (W' : World) => W'.cell? ⟨q, 4, none⟩ = some (.int .u64 (t.rg 8 : Int)) ∧ W'.cell? ⟨q, 10, none⟩ = some (.int .u64 (t.cp : Int))) w2 := ⟨k4, k10⟩
      go_wp2_with fail
      refine wpE_region (S := fun (W' : World) => W'.cell? ⟨q, 4, none⟩ = some (.int .u64 (t.rg 8 : Int)) ∧ W'.cell? ⟨q, 10, none⟩ = some (.int .u64 (t.cp : Int))) (s := 16) (by kernel_rfl) ?_
      have hS : (fun (W' : World) => W'.cell? ⟨q, 4, none⟩ = some (.int .u64 (t.rg 8 : Int)) ∧ W'.cell? ⟨q, 10, none⟩ = some (.int .u64 (t.cp : Int))) _ := hS
      refine wpE_take (i := 0) (oi := { dst := some 42, op := Go.Op.move (Go.Operand.tmp 0), type := 71, pos := "ref.go:132", after := #[], guard := none }) (v := ?_) rfl (by kernel_rfl) (fun _ _ _ h => h) (Or.inl ⟨by rfl, fun W hW => ?_⟩) hS ?_
      rotate_left
      · obtain ⟨hw1, hw2⟩ := hW; go_simp; (try go_bits); (try rw [if_pos (by omega)]); (try with_reducible rfl)
      (try simp only [Act.put, List.setIfInBounds_toArray, List.set_cons_succ, List.set_cons_zero])
      refine wpE_take (i := 1) (oi := { dst := some 43, op := Go.Op.move (Go.Operand.tmp 0), type := 71, pos := "ref.go:132", after := #[], guard := none }) (v := ?_) rfl (by kernel_rfl) (fun _ _ _ h => h) (Or.inl ⟨by rfl, fun W hW => ?_⟩) hS ?_
      rotate_left
      · obtain ⟨hw1, hw2⟩ := hW; go_simp; (try go_bits); (try rw [if_pos (by omega)]); (try with_reducible rfl)
      (try simp only [Act.put, List.setIfInBounds_toArray, List.set_cons_succ, List.set_cons_zero])
      refine wpE_take (i := 2) (oi := { dst := some 44, op := Go.Op.nilCheck (Go.Operand.tmp 43), type := 0, pos := "ref.go:132", after := #[{ on := 1, ground := Go.Ground.data }], guard := none }) (v := ?_) rfl (by kernel_rfl) (fun _ _ _ h => h) (Or.inl ⟨by rfl, fun W hW => ?_⟩) hS ?_
      rotate_left
      · obtain ⟨hw1, hw2⟩ := hW; go_simp; (try go_bits); (try rw [if_pos (by omega)]); (try with_reducible rfl)
      (try simp only [Act.put, List.setIfInBounds_toArray, List.set_cons_succ, List.set_cons_zero])
      refine wpE_take (i := 3) (oi := { dst := some 45, op := Go.Op.fieldAddr 74 (Go.Operand.tmp 44) 3, type := 0, pos := "ref.go:132", after := #[{ on := 2, ground := Go.Ground.data }], guard := none }) (v := ?_) rfl (by kernel_rfl) (fun _ _ _ h => h) (Or.inl ⟨by rfl, fun W hW => ?_⟩) hS ?_
      rotate_left
      · obtain ⟨hw1, hw2⟩ := hW; go_simp; (try go_bits); (try rw [if_pos (by omega)]); (try with_reducible rfl)
      (try simp only [Act.put, List.setIfInBounds_toArray, List.set_cons_succ, List.set_cons_zero])
      refine wpE_take (i := 4) (oi := { dst := some 46, op := Go.Op.indexAddr 72 (Go.Operand.tmp 45) (Go.Operand.const (Go.Value.int Go.IntKind.i64 1)), type := 0, pos := "ref.go:132", after := #[{ on := 3, ground := Go.Ground.data }], guard := none }) (v := ?_) rfl (by kernel_rfl) (fun _ _ _ h => h) (Or.inl ⟨by rfl, fun W hW => ?_⟩) hS ?_
      rotate_left
      · obtain ⟨hw1, hw2⟩ := hW; go_simp; (try go_bits); (try rw [if_pos (by omega)]); (try with_reducible rfl)
      (try simp only [Act.put, List.setIfInBounds_toArray, List.set_cons_succ, List.set_cons_zero])
      refine wpE_take (i := 5) (oi := { dst := some 47, op := Go.Op.load 23 (Go.Operand.tmp 46), type := 23, pos := "ref.go:132", after := #[{ on := 4, ground := Go.Ground.data }], guard := none }) (v := ?_) rfl (by kernel_rfl) (fun _ _ _ h => h) (Or.inl ⟨by rfl, fun W hW => ?_⟩) hS ?_
      rotate_left
      · obtain ⟨hw1, hw2⟩ := hW; go_simp; (try go_bits); (try rw [if_pos (by omega)]); (try with_reducible rfl)
      (try simp only [Act.put, List.setIfInBounds_toArray, List.set_cons_succ, List.set_cons_zero])
      refine wpE_take (i := 6) (oi := { dst := some 48, op := Go.Op.move (Go.Operand.tmp 0), type := 71, pos := "ref.go:132", after := #[], guard := none }) (v := ?_) rfl (by kernel_rfl) (fun _ _ _ h => h) (Or.inl ⟨by rfl, fun W hW => ?_⟩) hS ?_
      rotate_left
      · obtain ⟨hw1, hw2⟩ := hW; go_simp; (try go_bits); (try rw [if_pos (by omega)]); (try with_reducible rfl)
      (try simp only [Act.put, List.setIfInBounds_toArray, List.set_cons_succ, List.set_cons_zero])
      refine wpE_take (i := 7) (oi := { dst := some 49, op := Go.Op.nilCheck (Go.Operand.tmp 48), type := 0, pos := "ref.go:132", after := #[{ on := 6, ground := Go.Ground.data }], guard := none }) (v := ?_) rfl (by kernel_rfl) (fun _ _ _ h => h) (Or.inl ⟨by rfl, fun W hW => ?_⟩) hS ?_
      rotate_left
      · obtain ⟨hw1, hw2⟩ := hW; go_simp; (try go_bits); (try rw [if_pos (by omega)]); (try with_reducible rfl)
      (try simp only [Act.put, List.setIfInBounds_toArray, List.set_cons_succ, List.set_cons_zero])
      refine wpE_take (i := 8) (oi := { dst := some 50, op := Go.Op.fieldAddr 74 (Go.Operand.tmp 49) 4, type := 0, pos := "ref.go:132", after := #[{ on := 7, ground := Go.Ground.data }], guard := none }) (v := ?_) rfl (by kernel_rfl) (fun _ _ _ h => h) (Or.inl ⟨by rfl, fun W hW => ?_⟩) hS ?_
      rotate_left
      · obtain ⟨hw1, hw2⟩ := hW; go_simp; (try go_bits); (try rw [if_pos (by omega)]); (try with_reducible rfl)
      (try simp only [Act.put, List.setIfInBounds_toArray, List.set_cons_succ, List.set_cons_zero])
      refine wpE_take (i := 9) (oi := { dst := some 51, op := Go.Op.load 23 (Go.Operand.tmp 50), type := 23, pos := "ref.go:132", after := #[{ on := 8, ground := Go.Ground.data }], guard := none }) (v := ?_) rfl (by kernel_rfl) (fun _ _ _ h => h) (Or.inl ⟨by rfl, fun W hW => ?_⟩) hS ?_
      rotate_left
      · obtain ⟨hw1, hw2⟩ := hW; go_simp; (try go_bits); (try rw [if_pos (by omega)]); (try with_reducible rfl)
      (try simp only [Act.put, List.setIfInBounds_toArray, List.set_cons_succ, List.set_cons_zero])
      refine wpE_take (i := 10) (oi := { dst := some 52, op := Go.Op.binOp Go.BinOp.add 23 (Go.Operand.tmp 47) (Go.Operand.tmp 51) 23, type := 23, pos := "ref.go:132", after := #[{ on := 5, ground := Go.Ground.data }, { on := 9, ground := Go.Ground.data }], guard := none }) (v := ?_) rfl (by kernel_rfl) (fun _ _ _ h => h) (Or.inl ⟨by rfl, fun W hW => ?_⟩) hS ?_
      rotate_left
      · obtain ⟨hw1, hw2⟩ := hW; go_simp; (try go_bits); (try rw [if_pos (by omega)]); (try with_reducible rfl)
      (try simp only [Act.put, List.setIfInBounds_toArray, List.set_cons_succ, List.set_cons_zero])
      refine wpE_only (i := 11) (oi := { dst := some 53, op := Go.Op.call { callee := Go.Callee.value (Go.Operand.func 74), args := #[Go.Operand.tmp 42, Go.Operand.tmp 52, Go.Operand.const (Go.Value.bool true)], argTypes := #[71, 23, 4] }, type := 52, pos := "ref.go:132", after := #[{ on := 0, ground := Go.Ground.data }, { on := 10, ground := Go.Ground.data }], guard := none }) rfl (by kernel_rfl) (by rfl) (fun K hK => ?_)
      go_simp; refine HA.out.mono ?_; rintro x w3 ⟨rfl, own3, hS3, hV3⟩
      have hE3 := HE.out.call HG.hC hS3 hV3
      obtain ⟨_, _, _, _, y4, _, _, _, _, y10, _⟩ := hE3.er.cells
      have HE3 := Lib.hid hE3
      clear HE HA hS3 hV3 hE3 hS
      have hS : (fun (W' : World) => W'.cell? ⟨q, 4, none⟩ = some (.int .u64 (t.rg 8 : Int)) ∧ W'.cell? ⟨q, 10, none⟩ = some (.int .u64 (t.cp : Int))) w3 := ⟨y4, y10⟩
      refine hK _ _ hS ?_; clear hK K
      (try simp only [Act.put, List.setIfInBounds_toArray, List.set_cons_succ, List.set_cons_zero])
      refine wpE_take (i := 12) (oi := { dst := some 41, op := Go.Op.move (Go.Operand.tmp 53), type := 52, pos := "ref.go:132", after := #[{ on := 11, ground := Go.Ground.data }], guard := none }) (v := ?_) rfl (by kernel_rfl) (fun _ _ _ h => h) (Or.inl ⟨by rfl, fun W hW => ?_⟩) hS ?_
      rotate_left
      · obtain ⟨hw1, hw2⟩ := hW; go_simp; (try go_bits); (try rw [if_pos (by omega)]); (try with_reducible rfl)
      (try simp only [Act.put, List.setIfInBounds_toArray, List.set_cons_succ, List.set_cons_zero])
      refine wpE_take (i := 13) (oi := { dst := some 54, op := Go.Op.extract (Go.Operand.tmp 41) 0, type := 23, pos := "ref.go:132", after := #[{ on := 12, ground := Go.Ground.data }], guard := none }) (v := ?_) rfl (by kernel_rfl) (fun _ _ _ h => h) (Or.inl ⟨by rfl, fun W hW => ?_⟩) hS ?_
      rotate_left
      · obtain ⟨hw1, hw2⟩ := hW; go_simp; (try go_bits); (try rw [if_pos (by omega)]); (try with_reducible rfl)
      (try simp only [Act.put, List.setIfInBounds_toArray, List.set_cons_succ, List.set_cons_zero])
      refine wpE_take (i := 14) (oi := { dst := some 55, op := Go.Op.extract (Go.Operand.tmp 41) 1, type := 4, pos := "ref.go:132", after := #[{ on := 12, ground := Go.Ground.data }, { on := 15, ground := Go.Ground.gcOnly Go.Departure.lateStores }], guard := none }) (v := ?_) rfl (by kernel_rfl) (fun _ _ _ h => h) (Or.inl ⟨by rfl, fun W hW => ?_⟩) hS ?_
      rotate_left
      · obtain ⟨hw1, hw2⟩ := hW; go_simp; (try go_bits); (try rw [if_pos (by omega)]); (try with_reducible rfl)
      (try simp only [Act.put, List.setIfInBounds_toArray, List.set_cons_succ, List.set_cons_zero])
      refine wpE_only (i := 15) (oi := { dst := some 6, op := Go.Op.assign (Go.Operand.tmp 54), type := 23, pos := "ref.go:132", after := #[{ on := 13, ground := Go.Ground.data }, { on := 11, ground := Go.Ground.chain }, { on := 0, ground := Go.Ground.phase }, { on := 1, ground := Go.Ground.phase }, { on := 2, ground := Go.Ground.phase }, { on := 3, ground := Go.Ground.phase }, { on := 4, ground := Go.Ground.phase }, { on := 5, ground := Go.Ground.phase }, { on := 6, ground := Go.Ground.phase }, { on := 7, ground := Go.Ground.phase }, { on := 8, ground := Go.Ground.phase }, { on := 9, ground := Go.Ground.phase }, { on := 10, ground := Go.Ground.phase }, { on := 11, ground := Go.Ground.phase }, { on := 12, ground := Go.Ground.phase }, { on := 13, ground := Go.Ground.phase }, { on := 14, ground := Go.Ground.textOnly Go.Departure.lateStores }], guard := none }) rfl (by kernel_rfl) (by rfl) (fun K hK => ?_)
      go_simp; (try go_bits); refine hK _ _ hS ?_; clear hK K
      (try simp only [Act.put, List.setIfInBounds_toArray, List.set_cons_succ, List.set_cons_zero])
      refine wpE_last (oi := { dst := some 5, op := Go.Op.assign (Go.Operand.tmp 55), type := 4, pos := "ref.go:132", after := #[{ on := 14, ground := Go.Ground.data }, { on := 15, ground := Go.Ground.chain }, { on := 0, ground := Go.Ground.phase }, { on := 1, ground := Go.Ground.phase }, { on := 2, ground := Go.Ground.phase }, { on := 3, ground := Go.Ground.phase }, { on := 4, ground := Go.Ground.phase }, { on := 5, ground := Go.Ground.phase }, { on := 6, ground := Go.Ground.phase }, { on := 7, ground := Go.Ground.phase }, { on := 8, ground := Go.Ground.phase }, { on := 9, ground := Go.Ground.phase }, { on := 10, ground := Go.Ground.phase }, { on := 11, ground := Go.Ground.phase }, { on := 12, ground := Go.Ground.phase }, { on := 13, ground := Go.Ground.phase }, { on := 14, ground := Go.Ground.phase }, { on := 15, ground := Go.Ground.phase }], guard := none }) rfl (by kernel_rfl) (by kernel_rfl) (by rfl) (fun K hK => ?_)
      go_simp; (try go_bits); refine hK _ _ ?_; clear hK K
      clear hS k4 k10
      have hE := HE3.out
      clear HE3 y4 y10
      cases o2 with
      | false =>
        have hp2 := hE.put (t' := { t with st := 3 }) hV 7 (.int .u64 3) rfl
        obtain ⟨k0, k1, k2, k3, k4, k5, k7, k8, k9, k10, kl⟩ := hE.er.cells
        have z7 := hE.er.froz 7
        obtain ⟨l0, l1, g0, g1, ll⟩ := hE.loc
        have hne := hE.ne
        generalize w.heap.size = lb at *
        have hnx : nextE t true false = { t with st := 3 } := by unfold nextE; rw [if_pos hs]; rfl
        have HX := Lib.hid (show resE t true false R = (if t.rg 40 = 0 then (0, 0, false) else R 2) ∧ whichE t true false = (if t.rg 40 = 0 then 2 else 2 + 10) ∧ nextE t true false = { t with st := 3 } from ⟨by simp [resE, hs, hnx, atE], by simp [whichE, hs, hnx, atE], hnx⟩)
        have HM := Lib.hid (HG.ms 2 rfl ({ t with st := 3 }) rfl _ _ hp2.er hp2.v)
        obtain ⟨R3, hR3⟩ : ∃ R3, (if t.rg 40 = 0 then (0, 0, false) else R 2) = R3 := ⟨_, rfl⟩
        rw [hR3] at HX HM
        have HP := Lib.hid hp2
        clear hE hp2 hnx hs hR3
        go_wp2_with fail
        ((with_reducible refine HM.out.mono ?_); rintro x w9 ⟨rfl, own9, hS9, hV9⟩)
        have hE9 := HP.out.call HG.hC hS9 hV9
        obtain ⟨l0, l1, g0, g1, ll⟩ := hE9.loc
        have HE9 := Lib.hid (hE9.lset hV R3.1 R3.2.1)
        clear HP HM hS9 hV9 hE9
        go_wp2
        refine bodyPost_ret (results_cell_tmp_row rfl _ _ lb 47 #[.int .i64 R3.1, .int .i64 R3.2.1] _ rfl HE9.out.2.2.2 Tryz.underlying47 rfl (by kernel_rfl)) rfl ?_
        rw [HX.out.1, HX.out.2.1, HX.out.2.2]
        exact ⟨rfl, _, HE9.out.1, HE9.out.2.1, HE9.out.2.2.1⟩
      | true =>
        obtain ⟨_, k1, _⟩ := hE.er.cells
        have HRd := Lib.hid (HG.rd rfl rfl _ _ hE.v)
        have HE := Lib.hid hE
        clear hE
        go_wp2_with fail
        ((with_reducible refine HRd.out.mono ?_); rintro x w4 ⟨gd, rfl, own4, hS4, hV4⟩)
        have hE4 := HE.out.call HG.hC hS4 hV4
        clear HE HRd hS4 hV4 k1
        obtain ⟨_, k1, _⟩ := hE4.er.cells
        have HWr := Lib.hid (HG.wr rfl rfl _ _ hE4.v)
        have HE := Lib.hid hE4
        clear hE4
        go_wp2_with fail
        ((with_reducible refine HWr.out.mono ?_); rintro x w5 ⟨gw, rfl, own5, hS5, hV5⟩)
        have hE := HE.out.call HG.hC hS5 hV5
        clear HE HWr hS5 hV5 k1
        obtain ⟨hq2, hq3⟩ := hok.run hs
        obtain ⟨k0, k1, k2, k3, k4, k5, k7, k8, k9, k10, kl⟩ := hE.er.cells
        have z7 := hE.er.froz 7
        have z10 := hE.er.froz 10
        obtain ⟨l0, l1, g0, g1, ll⟩ := hE.loc
        have hne := hE.ne
        have hr16 := hok.rg 16
        have hcp8 : IntKind.u64.wrap ((t.cp : Int) + 8) = ((t.cp + 8 : Nat) : Int) := by rw [IntWalk.u64_in _ (by omega)]; omega
        have hp1 := hE.put (t' := { t with cp := t.cp + 8 }) hV 10 (.int .u64 (IntKind.u64.wrap ((t.cp : Int) + 8))) (by rw [hcp8]; rfl)
        have hp1d := hp1.drew hV
        have y10 : ((w5.setCell ⟨q, 10, none⟩ (.int .u64 (IntKind.u64.wrap ((t.cp : Int) + 8)))).drew).cell? ⟨q, 10, none⟩ = some (.int .u64 (IntKind.u64.wrap ((t.cp : Int) + 8))) := by rw [hcp8]; rw [hcp8] at hp1d; exact hp1d.er.cells.2.2.2.2.2.2.2.2.2.1
        have y5 := hp1d.er.cells.2.2.2.2.2.1
        generalize w.heap.size = lb at *
        by_cases hlt2 : t.cp + 8 < t.rg 16
        · have hlt3 : decide (IntKind.u64.wrap ((t.cp : Int) + 8) < (t.rg 16 : Int)) = true := by rw [hcp8]; simp; omega
          have hnx : nextE t true true = { t with cp := t.cp + 8 } := by unfold nextE; rw [if_pos hs]; simp [hlt2]
          have HX := Lib.hid (show resE t true true R = (0, 0, false) ∧ whichE t true true = 4 ∧ nextE t true true = { t with cp := t.cp + 8 } from ⟨by simp [resE, hs, hnx], by simp [whichE, hs, hnx, atE], hnx⟩)
          have HP := Lib.hid (hp1d.lset hV 0 0)
          clear hE hp1 hp1d hs hnx hlt2 hq2 hq3 hcp8
          go_wp2_with fail
          refine wpE_region (S := fun (W' : World) => W'.cell? ⟨q, 10, none⟩ = some (.int .u64 (IntKind.u64.wrap ((t.cp : Int) + 8))) ∧ W'.cell? ⟨q, 5, none⟩ = some (.int .u64 (t.rg 16 : Int))) (s := 9) (by kernel_rfl) ?_
          have hS : (fun (W' : World) => W'.cell? ⟨q, 10, none⟩ = some (.int .u64 (IntKind.u64.wrap ((t.cp : Int) + 8))) ∧ W'.cell? ⟨q, 5, none⟩ = some (.int .u64 (t.rg 16 : Int))) _ := ⟨y10, y5⟩
          refine wpE_take (i := 0) (oi := { dst := some 90, op := Go.Op.move (Go.Operand.tmp 0), type := 71, pos := "ref.go:140", after := #[], guard := none }) (v := ?_) rfl (by kernel_rfl) (fun _ _ _ h => h) (Or.inl ⟨by rfl, fun W hW => ?_⟩) hS ?_
          rotate_left
          · obtain ⟨hw1, hw2⟩ := hW; go_simp; (try go_bits); (try rw [if_pos (by omega)]); (try with_reducible rfl)
          (try simp only [Act.put, List.setIfInBounds_toArray, List.set_cons_succ, List.set_cons_zero])
          refine wpE_take (i := 1) (oi := { dst := some 91, op := Go.Op.nilCheck (Go.Operand.tmp 90), type := 0, pos := "ref.go:140", after := #[{ on := 0, ground := Go.Ground.data }], guard := none }) (v := ?_) rfl (by kernel_rfl) (fun _ _ _ h => h) (Or.inl ⟨by rfl, fun W hW => ?_⟩) hS ?_
          rotate_left
          · obtain ⟨hw1, hw2⟩ := hW; go_simp; (try go_bits); (try rw [if_pos (by omega)]); (try with_reducible rfl)
          (try simp only [Act.put, List.setIfInBounds_toArray, List.set_cons_succ, List.set_cons_zero])
          refine wpE_take (i := 2) (oi := { dst := some 92, op := Go.Op.fieldAddr 74 (Go.Operand.tmp 91) 4, type := 0, pos := "ref.go:140", after := #[{ on := 1, ground := Go.Ground.data }], guard := none }) (v := ?_) rfl (by kernel_rfl) (fun _ _ _ h => h) (Or.inl ⟨by rfl, fun W hW => ?_⟩) hS ?_
          rotate_left
          · obtain ⟨hw1, hw2⟩ := hW; go_simp; (try go_bits); (try rw [if_pos (by omega)]); (try with_reducible rfl)
          (try simp only [Act.put, List.setIfInBounds_toArray, List.set_cons_succ, List.set_cons_zero])
          refine wpE_take (i := 3) (oi := { dst := some 93, op := Go.Op.load 23 (Go.Operand.tmp 92), type := 23, pos := "ref.go:140", after := #[{ on := 2, ground := Go.Ground.data }], guard := none }) (v := ?_) rfl (by kernel_rfl) (fun _ _ _ h => h) (Or.inl ⟨by rfl, fun W hW => ?_⟩) hS ?_
          rotate_left
          · obtain ⟨hw1, hw2⟩ := hW; go_simp; (try go_bits); (try rw [if_pos (by omega)]); (try with_reducible rfl)
          (try simp only [Act.put, List.setIfInBounds_toArray, List.set_cons_succ, List.set_cons_zero])
          refine wpE_take (i := 4) (oi := { dst := some 94, op := Go.Op.move (Go.Operand.tmp 0), type := 71, pos := "ref.go:140", after := #[], guard := none }) (v := ?_) rfl (by kernel_rfl) (fun _ _ _ h => h) (Or.inl ⟨by rfl, fun W hW => ?_⟩) hS ?_
          rotate_left
          · obtain ⟨hw1, hw2⟩ := hW; go_simp; (try go_bits); (try rw [if_pos (by omega)]); (try with_reducible rfl)
          (try simp only [Act.put, List.setIfInBounds_toArray, List.set_cons_succ, List.set_cons_zero])
          refine wpE_take (i := 5) (oi := { dst := some 95, op := Go.Op.nilCheck (Go.Operand.tmp 94), type := 0, pos := "ref.go:140", after := #[{ on := 4, ground := Go.Ground.data }], guard := none }) (v := ?_) rfl (by kernel_rfl) (fun _ _ _ h => h) (Or.inl ⟨by rfl, fun W hW => ?_⟩) hS ?_
          rotate_left
          · obtain ⟨hw1, hw2⟩ := hW; go_simp; (try go_bits); (try rw [if_pos (by omega)]); (try with_reducible rfl)
          (try simp only [Act.put, List.setIfInBounds_toArray, List.set_cons_succ, List.set_cons_zero])
          refine wpE_take (i := 6) (oi := { dst := some 96, op := Go.Op.fieldAddr 74 (Go.Operand.tmp 95) 3, type := 0, pos := "ref.go:140", after := #[{ on := 5, ground := Go.Ground.data }], guard := none }) (v := ?_) rfl (by kernel_rfl) (fun _ _ _ h => h) (Or.inl ⟨by rfl, fun W hW => ?_⟩) hS ?_
          rotate_left
          · obtain ⟨hw1, hw2⟩ := hW; go_simp; (try go_bits); (try rw [if_pos (by omega)]); (try with_reducible rfl)
          (try simp only [Act.put, List.setIfInBounds_toArray, List.set_cons_succ, List.set_cons_zero])
          refine wpE_take (i := 7) (oi := { dst := some 97, op := Go.Op.indexAddr 72 (Go.Operand.tmp 96) (Go.Operand.const (Go.Value.int Go.IntKind.i64 2)), type := 0, pos := "ref.go:140", after := #[{ on := 6, ground := Go.Ground.data }], guard := none }) (v := ?_) rfl (by kernel_rfl) (fun _ _ _ h => h) (Or.inl ⟨by rfl, fun W hW => ?_⟩) hS ?_
          rotate_left
          · obtain ⟨hw1, hw2⟩ := hW; go_simp; (try go_bits); (try rw [if_pos (by omega)]); (try with_reducible rfl)
          (try simp only [Act.put, List.setIfInBounds_toArray, List.set_cons_succ, List.set_cons_zero])
          refine wpE_take (i := 8) (oi := { dst := some 98, op := Go.Op.load 23 (Go.Operand.tmp 97), type := 23, pos := "ref.go:140", after := #[{ on := 7, ground := Go.Ground.data }], guard := none }) (v := ?_) rfl (by kernel_rfl) (fun _ _ _ h => h) (Or.inl ⟨by rfl, fun W hW => ?_⟩) hS ?_
          rotate_left
          · obtain ⟨hw1, hw2⟩ := hW; go_simp; (try go_bits); (try rw [if_pos (by omega)]); (try with_reducible rfl)
          (try simp only [Act.put, List.setIfInBounds_toArray, List.set_cons_succ, List.set_cons_zero])
          refine wpE_last (oi := { dst := some 99, op := Go.Op.binOp Go.BinOp.lss 23 (Go.Operand.tmp 93) (Go.Operand.tmp 98) 23, type := 4, pos := "ref.go:140", after := #[{ on := 3, ground := Go.Ground.data }, { on := 8, ground := Go.Ground.data }], guard := none }) rfl (by kernel_rfl) (by kernel_rfl) (by rfl) (fun K hK => ?_)
          go_simp; (try go_bits); refine hK _ _ ?_; clear hK K
          go_wp2
          refine bodyPost_ret (results_cell_tmp_row rfl _ _ lb 47 #[.int .i64 0, .int .i64 0] _ rfl HP.out.2.2.2 Tryz.underlying47 rfl (by kernel_rfl)) rfl ?_
          rw [HX.out.1, HX.out.2.1, HX.out.2.2]
          exact ⟨rfl, _, HP.out.1, HP.out.2.1, HP.out.2.2.1⟩
        · have hlt3 : decide (IntKind.u64.wrap ((t.cp : Int) + 8) < (t.rg 16 : Int)) = false := by rw [hcp8]; simp; omega
          have hp2 := (hp1.put (t' := { t with st := 2, cp := t.cp + 8 }) hV 7 (.int .u64 2) rfl).drew hV
          clear hq2 hq3 hcp8
          go_wp2_with fail
          refine wpE_region (S := fun (W' : World) => W'.cell? ⟨q, 10, none⟩ = some (.int .u64 (IntKind.u64.wrap ((t.cp : Int) + 8))) ∧ W'.cell? ⟨q, 5, none⟩ = some (.int .u64 (t.rg 16 : Int))) (s := 9) (by kernel_rfl) ?_
          have hS : (fun (W' : World) => W'.cell? ⟨q, 10, none⟩ = some (.int .u64 (IntKind.u64.wrap ((t.cp : Int) + 8))) ∧ W'.cell? ⟨q, 5, none⟩ = some (.int .u64 (t.rg 16 : Int))) _ := ⟨y10, y5⟩
          refine wpE_take (i := 0) (oi := { dst := some 90, op := Go.Op.move (Go.Operand.tmp 0), type := 71, pos := "ref.go:140", after := #[], guard := none }) (v := ?_) rfl (by kernel_rfl) (fun _ _ _ h => h) (Or.inl ⟨by rfl, fun W hW => ?_⟩) hS ?_
          rotate_left
          · obtain ⟨hw1, hw2⟩ := hW; go_simp; (try go_bits); (try rw [if_pos (by omega)]); (try with_reducible rfl)
          (try simp only [Act.put, List.setIfInBounds_toArray, List.set_cons_succ, List.set_cons_zero])
          refine wpE_take (i := 1) (oi := { dst := some 91, op := Go.Op.nilCheck (Go.Operand.tmp 90), type := 0, pos := "ref.go:140", after := #[{ on := 0, ground := Go.Ground.data }], guard := none }) (v := ?_) rfl (by kernel_rfl) (fun _ _ _ h => h) (Or.inl ⟨by rfl, fun W hW => ?_⟩) hS ?_
          rotate_left
          · obtain ⟨hw1, hw2⟩ := hW; go_simp; (try go_bits); (try rw [if_pos (by omega)]); (try with_reducible rfl)
          (try simp only [Act.put, List.setIfInBounds_toArray, List.set_cons_succ, List.set_cons_zero])
          refine wpE_take (i := 2) (oi := { dst := some 92, op := Go.Op.fieldAddr 74 (Go.Operand.tmp 91) 4, type := 0, pos := "ref.go:140", after := #[{ on := 1, ground := Go.Ground.data }], guard := none }) (v := ?_) rfl (by kernel_rfl) (fun _ _ _ h => h) (Or.inl ⟨by rfl, fun W hW => ?_⟩) hS ?_
          rotate_left
          · obtain ⟨hw1, hw2⟩ := hW; go_simp; (try go_bits); (try rw [if_pos (by omega)]); (try with_reducible rfl)
          (try simp only [Act.put, List.setIfInBounds_toArray, List.set_cons_succ, List.set_cons_zero])
          refine wpE_take (i := 3) (oi := { dst := some 93, op := Go.Op.load 23 (Go.Operand.tmp 92), type := 23, pos := "ref.go:140", after := #[{ on := 2, ground := Go.Ground.data }], guard := none }) (v := ?_) rfl (by kernel_rfl) (fun _ _ _ h => h) (Or.inl ⟨by rfl, fun W hW => ?_⟩) hS ?_
          rotate_left
          · obtain ⟨hw1, hw2⟩ := hW; go_simp; (try go_bits); (try rw [if_pos (by omega)]); (try with_reducible rfl)
          (try simp only [Act.put, List.setIfInBounds_toArray, List.set_cons_succ, List.set_cons_zero])
          refine wpE_take (i := 4) (oi := { dst := some 94, op := Go.Op.move (Go.Operand.tmp 0), type := 71, pos := "ref.go:140", after := #[], guard := none }) (v := ?_) rfl (by kernel_rfl) (fun _ _ _ h => h) (Or.inl ⟨by rfl, fun W hW => ?_⟩) hS ?_
          rotate_left
          · obtain ⟨hw1, hw2⟩ := hW; go_simp; (try go_bits); (try rw [if_pos (by omega)]); (try with_reducible rfl)
          (try simp only [Act.put, List.setIfInBounds_toArray, List.set_cons_succ, List.set_cons_zero])
          refine wpE_take (i := 5) (oi := { dst := some 95, op := Go.Op.nilCheck (Go.Operand.tmp 94), type := 0, pos := "ref.go:140", after := #[{ on := 4, ground := Go.Ground.data }], guard := none }) (v := ?_) rfl (by kernel_rfl) (fun _ _ _ h => h) (Or.inl ⟨by rfl, fun W hW => ?_⟩) hS ?_
          rotate_left
          · obtain ⟨hw1, hw2⟩ := hW; go_simp; (try go_bits); (try rw [if_pos (by omega)]); (try with_reducible rfl)
          (try simp only [Act.put, List.setIfInBounds_toArray, List.set_cons_succ, List.set_cons_zero])
          refine wpE_take (i := 6) (oi := { dst := some 96, op := Go.Op.fieldAddr 74 (Go.Operand.tmp 95) 3, type := 0, pos := "ref.go:140", after := #[{ on := 5, ground := Go.Ground.data }], guard := none }) (v := ?_) rfl (by kernel_rfl) (fun _ _ _ h => h) (Or.inl ⟨by rfl, fun W hW => ?_⟩) hS ?_
          rotate_left
          · obtain ⟨hw1, hw2⟩ := hW; go_simp; (try go_bits); (try rw [if_pos (by omega)]); (try with_reducible rfl)
          (try simp only [Act.put, List.setIfInBounds_toArray, List.set_cons_succ, List.set_cons_zero])
          refine wpE_take (i := 7) (oi := { dst := some 97, op := Go.Op.indexAddr 72 (Go.Operand.tmp 96) (Go.Operand.const (Go.Value.int Go.IntKind.i64 2)), type := 0, pos := "ref.go:140", after := #[{ on := 6, ground := Go.Ground.data }], guard := none }) (v := ?_) rfl (by kernel_rfl) (fun _ _ _ h => h) (Or.inl ⟨by rfl, fun W hW => ?_⟩) hS ?_
          rotate_left
          · obtain ⟨hw1, hw2⟩ := hW; go_simp; (try go_bits); (try rw [if_pos (by omega)]); (try with_reducible rfl)
          (try simp only [Act.put, List.setIfInBounds_toArray, List.set_cons_succ, List.set_cons_zero])
          refine wpE_take (i := 8) (oi := { dst := some 98, op := Go.Op.load 23 (Go.Operand.tmp 97), type := 23, pos := "ref.go:140", after := #[{ on := 7, ground := Go.Ground.data }], guard := none }) (v := ?_) rfl (by kernel_rfl) (fun _ _ _ h => h) (Or.inl ⟨by rfl, fun W hW => ?_⟩) hS ?_
          rotate_left
          · obtain ⟨hw1, hw2⟩ := hW; go_simp; (try go_bits); (try rw [if_pos (by omega)]); (try with_reducible rfl)
          (try simp only [Act.put, List.setIfInBounds_toArray, List.set_cons_succ, List.set_cons_zero])
          refine wpE_last (oi := { dst := some 99, op := Go.Op.binOp Go.BinOp.lss 23 (Go.Operand.tmp 93) (Go.Operand.tmp 98) 23, type := 4, pos := "ref.go:140", after := #[{ on := 3, ground := Go.Ground.data }, { on := 8, ground := Go.Ground.data }], guard := none }) rfl (by kernel_rfl) (by kernel_rfl) (by rfl) (fun K hK => ?_)
          go_simp; (try go_bits); refine hK _ _ ?_; clear hK K
          clear hS
          have hnx : nextE t true true = { t with st := 2, cp := t.cp + 8 } := by unfold nextE; rw [if_pos hs]; simp [hlt2]
          have HX := Lib.hid (show resE t true true R = (if t.rg 40 = 0 then (0, 0, false) else R 4) ∧ whichE t true true = (if t.rg 40 = 0 then 4 else 4 + 10) ∧ nextE t true true = { t with st := 2, cp := t.cp + 8 } from ⟨by simp [resE, hs, hnx, atE], by simp [whichE, hs, hnx, atE], hnx⟩)
          have HM := Lib.hid (HG.ms 4 rfl ({ t with st := 2, cp := t.cp + 8 }) rfl _ _ hp2.er hp2.v)
          obtain ⟨R3, hR3⟩ : ∃ R3, (if t.rg 40 = 0 then (0, 0, false) else R 4) = R3 := ⟨_, rfl⟩
          rw [hR3] at HX HM
          have HP := Lib.hid hp2
          clear hE hp1 hp1d hp2 hlt2 hnx hs hR3
          go_wp2_with fail
          ((with_reducible refine HM.out.mono ?_); rintro x w9 ⟨rfl, own9, hS9, hV9⟩)
          have hE9 := HP.out.call HG.hC hS9 hV9
          obtain ⟨l0, l1, g0, g1, ll⟩ := hE9.loc
          have HE9 := Lib.hid (hE9.lset hV R3.1 R3.2.1)
          clear HP HM hS9 hV9 hE9
          go_wp2
          refine bodyPost_ret (results_cell_tmp_row rfl _ _ lb 47 #[.int .i64 R3.1, .int .i64 R3.2.1] _ rfl HE9.out.2.2.2 Tryz.underlying47 rfl (by kernel_rfl)) rfl ?_
          rw [HX.out.1, HX.out.2.1, HX.out.2.2]
          exact ⟨rfl, _, HE9.out.1, HE9.out.2.1, HE9.out.2.2.1⟩
  · rw [show resE t o1 o2 R = (0, 0, false) from if_neg hs, show nextE t o1 o2 = t from if_neg hs, show whichE t o1 o2 = 0 from if_neg hs]
    have es : ((t.st : Int) != 1) = true := by simp; omega
    have HE := Lib.hid hE0
    clear hE0 h hok H hs
    go_enter Tryz.func50, Tryz.ntmps50
    go_wp2
    refine bodyPost_ret (results_cell_tmp_row rfl _ _ w.heap.size 47 #[.int .i64 0, .int .i64 0] _ rfl HE.out.bl Tryz.underlying47 rfl (by kernel_rfl)) rfl ?_
    exact ⟨rfl, _, HE.out.st, HE.out.er, HE.out.v⟩
end
end Go.Proofs.YtonhlgfgbdiapaaGreat
