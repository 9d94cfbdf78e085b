import Derived.Test.YtonhlgfgbdiapaaGreatQmb
import Derived.Test.YtonhlgfgbdiapaaGreatMemC
import Derived.Test.YtonhlgfgbdiapaaGreatQma
/- The document's engine: Step, for any way. -/
namespace Go.Proofs.YtonhlgfgbdiapaaGreat
set_option linter.unusedVariables false
set_option linter.unusedSimpArgs false
open Go.RowKit
set_option maxRecDepth 100000
section
variable {own own' : Nat → Nat} {c q p2 : Nat} {dev : Int} {uv : Value} {w w' : World} {t t' : Eg}
structure WayD (c q p2 : Nat) (V : Nat → (Nat → Nat) → World → Prop) (C : Nat → Prop) (dev : Int) (uv : Value) (t : Eg) (o1 o2 : Bool) (f1 f2 v : Nat) (R : Nat → Int × Int × Bool) : Prop where
  hC : ¬ C c
  b1 : f1 < 18446744073709551616
  b2 : f2 < 18446744073709551616
  bv : v < 18446744073709551616
  A1 : ∀ own w, ErAt own c w q dev (.pointer (some ⟨p2, 0, none⟩)) uv t → V 0 own w → Calls Tryz.prog 74 #[.pointer (some ⟨q, 0, none⟩), .int .u64 (((t.rg 0 + t.cp) % 18446744073709551616 : Nat) : Int), .bool false] w fun x w' => x = .returned (.tuple #[.int .u64 (f1 : Int), .bool o1]) ∧ ∃ own', Step C own w own' w' ∧ V 1 own' w'
  A2 : o1 = true → ∀ own w, ErAt own c w q dev (.pointer (some ⟨p2, 0, none⟩)) uv t → V 1 own w → Calls Tryz.prog 74 #[.pointer (some ⟨q, 0, none⟩), .int .u64 (((t.rg 8 + t.cp) % 18446744073709551616 : Nat) : Int), .bool true] w fun x w' => x = .returned (.tuple #[.int .u64 (f2 : Int), .bool o2]) ∧ ∃ own', Step C own w own' w' ∧ V 2 own' w'
  rd : o1 = true → o2 = true → ∀ own w, V 2 own w → Calls Tryz.prog 76 #[.pointer (some ⟨p2, 0, none⟩), .int .u64 (f1 : Int), .int .i64 8] w fun x w' => ∃ g, x = .returned (.tuple #[.int .u64 (v : Int), .bool g]) ∧ ∃ own', Step C own w own' w' ∧ V 3 own' w'
  wr : o1 = true → o2 = true → ∀ own w, V 3 own w → Calls Tryz.prog 71 #[.pointer (some ⟨p2, 0, none⟩), .int .u64 (f2 : Int), .int .i64 8, .int .u64 (v : Int)] w fun x w' => ∃ g, x = .returned (.bool g) ∧ ∃ own', Step C own w own' w' ∧ V 4 own' w'
  ms : ∀ i, i = atE o1 o2 → ∀ (t' : Eg), t'.rg = t.rg → ∀ own w, ErAt own c w q dev (.pointer (some ⟨p2, 0, none⟩)) uv t' → V i own w → Calls Tryz.prog 75 #[.pointer (some ⟨q, 0, none⟩)] w fun x w' => x = .returned (.tuple #[.agg #[.int .i64 (if t.rg 40 = 0 then (0, 0, false) else R i).1, .int .i64 (if t.rg 40 = 0 then (0, 0, false) else R i).2.1], .bool (if t.rg 40 = 0 then (0, 0, false) else R i).2.2]) ∧ ∃ own', Step C own w own' w' ∧ V (if t.rg 40 = 0 then i else i + 10) own' w'
structure ED (V : Nat → (Nat → Nat) → World → Prop) (C : Nat → Prop) (own0 : Nat → Nat) (w0 : World) (own : Nat → Nat) (w : World) (c q p2 lb : Nat) (dev : Int) (uv : Value) (t : Eg) (i : Nat) : Prop where
  st : Step (fun x => x = c ∨ C x) own0 w0 own w
  er : ErAt own c w q dev (.pointer (some ⟨p2, 0, none⟩)) uv t
  v : V i own w
  bl : Blk w lb 47 #[.int .i64 0, .int .i64 0]
  ol : own lb = c
  ne : q ≠ lb
section
variable {V : Nat → (Nat → Nat) → World → Prop} {C : Nat → Prop} {own0 own1 : Nat → Nat} {w0 w1 : World} {lb i j : Nat}
theorem ED.call (h : ED V C own0 w0 own w c q p2 lb dev uv t i) (hC : ¬ C c) (hS : Step C own w own1 w1) (hv : V j own1 w1) : ED V C own0 w0 own1 w1 c q p2 lb dev uv t j :=
  ⟨h.st.trans (hS.mono (fun _ hx => .inr hx)), h.er.step hS hC, hv, (hS.blk h.bl h.ol hC).1, (hS.blk h.bl h.ol hC).2, h.ne⟩
theorem ED.put (h : ED V C own0 w0 own w c q p2 lb dev uv t i) (hV : ∀ i own w own' w', V i own w → Step (· = c) own w own' w' → V i own' w') (k : Nat) (x : Value) (he : erC dev (.pointer (some ⟨p2, 0, none⟩)) uv t' = (erC dev (.pointer (some ⟨p2, 0, none⟩)) uv t).setIfInBounds k x) :
    ED V C own0 w0 own (w.setCell ⟨q, k, none⟩ x) c q p2 lb dev uv t' i := by
  obtain ⟨hS, hE⟩ := h.er.put (t' := t') k x he
  exact ⟨h.st.trans (hS.mono (fun _ hx => .inl hx)), hE, hV _ _ _ _ _ h.v hS, h.bl.upd ((Upd.refl (· = q) w).setCell (p := ⟨q, k, none⟩) (.inl rfl) _) (fun h' => h.ne h'.symm), h.ol, h.ne⟩
theorem ED.loc (h : ED V C own0 w0 own w c q p2 lb dev uv t i) : w.cell? ⟨lb, 0, none⟩ = some (.int .i64 0) ∧ w.cell? ⟨lb, 1, none⟩ = some (.int .i64 0) ∧ w.frozen? ⟨lb, 0, none⟩ = false ∧ w.frozen? ⟨lb, 1, none⟩ = false ∧ lb < w.heap.size :=
  ⟨h.bl.cell 0, h.bl.cell 1, h.bl.frozen 0, h.bl.frozen 1, h.bl.lt⟩
theorem ED.lset (h : ED V C own0 w0 own w c q p2 lb dev uv t i) (hV : ∀ i own w own' w', V i own w → Step (· = c) own w own' w' → V i own' w') (x y : Int) :
    Step (fun x => x = c ∨ C x) own0 w0 own ((w.setCell ⟨lb, 0, none⟩ (.int .i64 x)).setCell ⟨lb, 1, none⟩ (.int .i64 y)) ∧ ErAt own c ((w.setCell ⟨lb, 0, none⟩ (.int .i64 x)).setCell ⟨lb, 1, none⟩ (.int .i64 y)) q dev (.pointer (some ⟨p2, 0, none⟩)) uv t ∧ V i own ((w.setCell ⟨lb, 0, none⟩ (.int .i64 x)).setCell ⟨lb, 1, none⟩ (.int .i64 y)) ∧ Blk ((w.setCell ⟨lb, 0, none⟩ (.int .i64 x)).setCell ⟨lb, 1, none⟩ (.int .i64 y)) lb 47 #[.int .i64 x, .int .i64 y] := by
  have hU : Upd (· = lb) w ((w.setCell ⟨lb, 0, none⟩ (.int .i64 x)).setCell ⟨lb, 1, none⟩ (.int .i64 y)) := ((Upd.refl (· = lb) w).setCell (p := ⟨lb, 0, none⟩) (.inl rfl) _).setCell (p := ⟨lb, 1, none⟩) (.inl rfl) _
  have hS : Step (· = c) own w own ((w.setCell ⟨lb, 0, none⟩ (.int .i64 x)).setCell ⟨lb, 1, none⟩ (.int .i64 y)) := ⟨hU.mono (fun i _ hi => by rw [hi]; exact h.ol), fun _ _ => rfl⟩
  exact ⟨h.st.trans (hS.mono (fun _ hx => .inl hx)), ⟨h.er.1.upd hU h.ne, h.er.2⟩, hV _ _ _ _ _ h.v hS, (h.bl.set_ 0 (.int .i64 x)).set_ 1 (.int .i64 y)⟩
theorem ED.drew (h : ED V C own0 w0 own w c q p2 lb dev uv t i) (hV : ∀ i own w own' w', V i own w → Step (· = c) own w own' w' → V i own' w') : ED V C own0 w0 own w.drew c q p2 lb dev uv t i :=
  ⟨h.st.trans ((Step.refl _ _ _).drew), h.er.step ((Step.refl (fun _ => False) _ _).drew) (fun x => x), hV _ _ _ _ _ h.v ((Step.refl _ _ _).drew), h.bl, h.ol, h.ne⟩
theorem ED.alloc (h : ErAt own c w q dev (.pointer (some ⟨p2, 0, none⟩)) uv t) (hV : ∀ i own w own' w', V i own w → Step (· = c) own w own' w' → V i own' w') (hv : V i own w) (cs : Array Value) (hcs : cs = #[.int .i64 0, .int .i64 0]) : ED V C own w (ext own w c) (w.alloc (.cells cs 47)) c q p2 w.heap.size dev uv t i := by
  subst hcs
  have hst : ∀ D : Nat → Prop, Step D own w (ext own w c) (w.alloc (.cells #[.int .i64 0, .int .i64 0] 47)) := fun D => ⟨(Upd.refl _ _).alloc _, fun b hb => ext_old _ _ _ hb⟩
  exact ⟨hst _, h.step (hst (fun _ => False)) (fun x => x), hV _ _ _ _ _ hv (hst _), Blk.new _ _ _, ext_new _ _ _ (Nat.le_refl _), Nat.ne_of_lt h.1.lt⟩
end
set_option maxHeartbeats 4000000 in
theorem eref_StepG {V : Nat → (Nat → Nat) → World → Prop} {C : Nat → Prop} {o1 o2 : Bool} {f1 f2 v : Nat} {R : Nat → Int × Int × Bool}
    (h : ErAt own c w q dev (.pointer (some ⟨p2, 0, none⟩)) uv t) (hok : ErOk t) (H : t.st = 1 → WayD c q p2 V C dev uv t o1 o2 f1 f2 v R) (hV : ∀ i own w own' w', V i own w → Step (· = c) own w own' w' → V i own' w') (hv : V 0 own w) :
    Calls Tryz.prog 50 #[.pointer (some ⟨q, 0, none⟩)] w fun x w' => x = .returned (.tuple #[.agg #[.int .i64 (resE t o1 o2 R).1, .int .i64 (resE t o1 o2 R).2.1], .bool (resE t o1 o2 R).2.2]) ∧
      ∃ own', Step (fun x => x = c ∨ C x) own w own' w' ∧ ErAt own' c w' q dev (.pointer (some ⟨p2, 0, none⟩)) uv (nextE t o1 o2) ∧ V (whichE t o1 o2) own' w' := by
  have hE0 := ED.alloc (C := C) h hV hv _ rfl
  obtain ⟨_, _, _, _, _, _, c7, _, _, _, hlt⟩ := hE0.er.cells
  by_cases hs : t.st = 1
  · have HG := H hs
    have es : ((t.st : Int) != 1) = false := by rw [hs]; rfl
    rw [hs] at c7
    have hE1 := hE0.drew hV
    have hA := HG.A1 _ _ hE1.er hE1.v
    rw [wrapN] at hA
    have HA := Lib.hid hA
    obtain ⟨_, _, _, k3, _, _, _, _, _, k10, _⟩ := hE0.er.cells
    have hcp := hok.cp
    have hr0 := hok.rg 0
    have HE := Lib.hid hE1
    clear H h hE0 hE1 hA
    have hS : (fun (W' : World) => W'.cell? ⟨q, 3, none⟩ = some (.int .u64 (t.rg 0 : Int)) ∧ W'.cell? ⟨q, 10, none⟩ = some (.int .u64 (t.cp : Int))) (w.alloc (.cells #[.int .i64 0, .int .i64 0] 47)) := ⟨k3, k10⟩
    go_enter Tryz.func50, Tryz.ntmps50
    go_wp2_with fail
    refine wpE_region (S := fun (W' : World) => W'.cell? ⟨q, 3, none⟩ = some (.int .u64 (t.rg 0 : Int)) ∧ W'.cell? ⟨q, 10, none⟩ = some (.int .u64 (t.cp : Int))) (s := 16) (by kernel_rfl) ?_
    have hS : (fun (W' : World) => W'.cell? ⟨q, 3, none⟩ = some (.int .u64 (t.rg 0 : Int)) ∧ W'.cell? ⟨q, 10, none⟩ = some (.int .u64 (t.cp : Int))) _ := hS
    refine wpE_take (i := 0) (oi := { dst := some 17, op := Go.Op.move (Go.Operand.tmp 0), type := 71, pos := "ref.go:127", after := #[], guard := none }) (v := ?_) rfl (by kernel_rfl) (fun _ _ _ h => h) (Or.inl ⟨by rfl, fun W hW => ?_⟩) hS ?_
    rotate_left
    · obtain ⟨hw1, hw2⟩ := hW; go_simp; (try go_bits); (try rw [if_pos (by omega)]); (try with_reducible rfl)
    (try simp only [Act.put, List.setIfInBounds_toArray, List.set_cons_succ, List.set_cons_zero])
    refine wpE_take (i := 1) (oi := { dst := some 18, op := Go.Op.move (Go.Operand.tmp 0), type := 71, pos := "ref.go:127", after := #[], guard := none }) (v := ?_) rfl (by kernel_rfl) (fun _ _ _ h => h) (Or.inl ⟨by rfl, fun W hW => ?_⟩) hS ?_
    rotate_left
    · obtain ⟨hw1, hw2⟩ := hW; go_simp; (try go_bits); (try rw [if_pos (by omega)]); (try with_reducible rfl)
    (try simp only [Act.put, List.setIfInBounds_toArray, List.set_cons_succ, List.set_cons_zero])
    refine wpE_take (i := 2) (oi := { dst := some 19, op := Go.Op.nilCheck (Go.Operand.tmp 18), type := 0, pos := "ref.go:127", after := #[{ on := 1, ground := Go.Ground.data }], guard := none }) (v := ?_) rfl (by kernel_rfl) (fun _ _ _ h => h) (Or.inl ⟨by rfl, fun W hW => ?_⟩) hS ?_
    rotate_left
    · obtain ⟨hw1, hw2⟩ := hW; go_simp; (try go_bits); (try rw [if_pos (by omega)]); (try with_reducible rfl)
    (try simp only [Act.put, List.setIfInBounds_toArray, List.set_cons_succ, List.set_cons_zero])
    refine wpE_take (i := 3) (oi := { dst := some 20, op := Go.Op.fieldAddr 74 (Go.Operand.tmp 19) 3, type := 0, pos := "ref.go:127", after := #[{ on := 2, ground := Go.Ground.data }], guard := none }) (v := ?_) rfl (by kernel_rfl) (fun _ _ _ h => h) (Or.inl ⟨by rfl, fun W hW => ?_⟩) hS ?_
    rotate_left
    · obtain ⟨hw1, hw2⟩ := hW; go_simp; (try go_bits); (try rw [if_pos (by omega)]); (try with_reducible rfl)
    (try simp only [Act.put, List.setIfInBounds_toArray, List.set_cons_succ, List.set_cons_zero])
    refine wpE_take (i := 4) (oi := { dst := some 21, op := Go.Op.indexAddr 72 (Go.Operand.tmp 20) (Go.Operand.const (Go.Value.int Go.IntKind.i64 0)), type := 0, pos := "ref.go:127", after := #[{ on := 3, ground := Go.Ground.data }], guard := none }) (v := ?_) rfl (by kernel_rfl) (fun _ _ _ h => h) (Or.inl ⟨by rfl, fun W hW => ?_⟩) hS ?_
    rotate_left
    · obtain ⟨hw1, hw2⟩ := hW; go_simp; (try go_bits); (try rw [if_pos (by omega)]); (try with_reducible rfl)
    (try simp only [Act.put, List.setIfInBounds_toArray, List.set_cons_succ, List.set_cons_zero])
    refine wpE_take (i := 5) (oi := { dst := some 22, op := Go.Op.load 23 (Go.Operand.tmp 21), type := 23, pos := "ref.go:127", after := #[{ on := 4, ground := Go.Ground.data }], guard := none }) (v := ?_) rfl (by kernel_rfl) (fun _ _ _ h => h) (Or.inl ⟨by rfl, fun W hW => ?_⟩) hS ?_
    rotate_left
    · obtain ⟨hw1, hw2⟩ := hW; go_simp; (try go_bits); (try rw [if_pos (by omega)]); (try with_reducible rfl)
    (try simp only [Act.put, List.setIfInBounds_toArray, List.set_cons_succ, List.set_cons_zero])
    refine wpE_take (i := 6) (oi := { dst := some 23, op := Go.Op.move (Go.Operand.tmp 0), type := 71, pos := "ref.go:127", after := #[], guard := none }) (v := ?_) rfl (by kernel_rfl) (fun _ _ _ h => h) (Or.inl ⟨by rfl, fun W hW => ?_⟩) hS ?_
    rotate_left
    · obtain ⟨hw1, hw2⟩ := hW; go_simp; (try go_bits); (try rw [if_pos (by omega)]); (try with_reducible rfl)
    (try simp only [Act.put, List.setIfInBounds_toArray, List.set_cons_succ, List.set_cons_zero])
    refine wpE_take (i := 7) (oi := { dst := some 24, op := Go.Op.nilCheck (Go.Operand.tmp 23), type := 0, pos := "ref.go:127", after := #[{ on := 6, ground := Go.Ground.data }], guard := none }) (v := ?_) rfl (by kernel_rfl) (fun _ _ _ h => h) (Or.inl ⟨by rfl, fun W hW => ?_⟩) hS ?_
    rotate_left
    · obtain ⟨hw1, hw2⟩ := hW; go_simp; (try go_bits); (try rw [if_pos (by omega)]); (try with_reducible rfl)
    (try simp only [Act.put, List.setIfInBounds_toArray, List.set_cons_succ, List.set_cons_zero])
    refine wpE_take (i := 8) (oi := { dst := some 25, op := Go.Op.fieldAddr 74 (Go.Operand.tmp 24) 4, type := 0, pos := "ref.go:127", after := #[{ on := 7, ground := Go.Ground.data }], guard := none }) (v := ?_) rfl (by kernel_rfl) (fun _ _ _ h => h) (Or.inl ⟨by rfl, fun W hW => ?_⟩) hS ?_
    rotate_left
    · obtain ⟨hw1, hw2⟩ := hW; go_simp; (try go_bits); (try rw [if_pos (by omega)]); (try with_reducible rfl)
    (try simp only [Act.put, List.setIfInBounds_toArray, List.set_cons_succ, List.set_cons_zero])
    refine wpE_take (i := 9) (oi := { dst := some 26, op := Go.Op.load 23 (Go.Operand.tmp 25), type := 23, pos := "ref.go:127", after := #[{ on := 8, ground := Go.Ground.data }], guard := none }) (v := ?_) rfl (by kernel_rfl) (fun _ _ _ h => h) (Or.inl ⟨by rfl, fun W hW => ?_⟩) hS ?_
    rotate_left
    · obtain ⟨hw1, hw2⟩ := hW; go_simp; (try go_bits); (try rw [if_pos (by omega)]); (try with_reducible rfl)
    (try simp only [Act.put, List.setIfInBounds_toArray, List.set_cons_succ, List.set_cons_zero])
    refine wpE_take (i := 10) (oi := { dst := some 27, op := Go.Op.binOp Go.BinOp.add 23 (Go.Operand.tmp 22) (Go.Operand.tmp 26) 23, type := 23, pos := "ref.go:127", after := #[{ on := 5, ground := Go.Ground.data }, { on := 9, ground := Go.Ground.data }], guard := none }) (v := ?_) rfl (by kernel_rfl) (fun _ _ _ h => h) (Or.inl ⟨by rfl, fun W hW => ?_⟩) hS ?_
    rotate_left
    · obtain ⟨hw1, hw2⟩ := hW; go_simp; (try go_bits); (try rw [if_pos (by omega)]); (try with_reducible rfl)
    (try simp only [Act.put, List.setIfInBounds_toArray, List.set_cons_succ, List.set_cons_zero])
    refine wpE_only (i := 11) (oi := { dst := some 28, op := Go.Op.call { callee := Go.Callee.value (Go.Operand.func 74), args := #[Go.Operand.tmp 17, Go.Operand.tmp 27, Go.Operand.const (Go.Value.bool false)], argTypes := #[71, 23, 4] }, type := 52, pos := "ref.go:127", after := #[{ on := 0, ground := Go.Ground.data }, { on := 10, ground := Go.Ground.data }], guard := none }) rfl (by kernel_rfl) (by rfl) (fun K hK => ?_)
    go_simp; refine HA.out.mono ?_; rintro x w2 ⟨rfl, own2, hS2, hV2⟩
    have hE2 := HE.out.call HG.hC hS2 hV2
    obtain ⟨_, _, _, y3, _, _, _, _, _, y10, _⟩ := hE2.er.cells
    have HE2 := Lib.hid hE2
    clear HE HA hS2 hV2 hE2 hS
    have hS : (fun (W' : World) => W'.cell? ⟨q, 3, none⟩ = some (.int .u64 (t.rg 0 : Int)) ∧ W'.cell? ⟨q, 10, none⟩ = some (.int .u64 (t.cp : Int))) w2 := ⟨y3, y10⟩
    refine hK _ _ hS ?_; clear hK K
    (try simp only [Act.put, List.setIfInBounds_toArray, List.set_cons_succ, List.set_cons_zero])
    refine wpE_take (i := 12) (oi := { dst := some 16, op := Go.Op.move (Go.Operand.tmp 28), type := 52, pos := "ref.go:127", after := #[{ on := 11, ground := Go.Ground.data }], guard := none }) (v := ?_) rfl (by kernel_rfl) (fun _ _ _ h => h) (Or.inl ⟨by rfl, fun W hW => ?_⟩) hS ?_
    rotate_left
    · obtain ⟨hw1, hw2⟩ := hW; go_simp; (try go_bits); (try rw [if_pos (by omega)]); (try with_reducible rfl)
    (try simp only [Act.put, List.setIfInBounds_toArray, List.set_cons_succ, List.set_cons_zero])
    refine wpE_take (i := 13) (oi := { dst := some 29, op := Go.Op.extract (Go.Operand.tmp 16) 0, type := 23, pos := "ref.go:127", after := #[{ on := 12, ground := Go.Ground.data }], guard := none }) (v := ?_) rfl (by kernel_rfl) (fun _ _ _ h => h) (Or.inl ⟨by rfl, fun W hW => ?_⟩) hS ?_
    rotate_left
    · obtain ⟨hw1, hw2⟩ := hW; go_simp; (try go_bits); (try rw [if_pos (by omega)]); (try with_reducible rfl)
    (try simp only [Act.put, List.setIfInBounds_toArray, List.set_cons_succ, List.set_cons_zero])
    refine wpE_take (i := 14) (oi := { dst := some 30, op := Go.Op.extract (Go.Operand.tmp 16) 1, type := 4, pos := "ref.go:127", after := #[{ on := 12, ground := Go.Ground.data }, { on := 15, ground := Go.Ground.gcOnly Go.Departure.lateStores }], guard := none }) (v := ?_) rfl (by kernel_rfl) (fun _ _ _ h => h) (Or.inl ⟨by rfl, fun W hW => ?_⟩) hS ?_
    rotate_left
    · obtain ⟨hw1, hw2⟩ := hW; go_simp; (try go_bits); (try rw [if_pos (by omega)]); (try with_reducible rfl)
    (try simp only [Act.put, List.setIfInBounds_toArray, List.set_cons_succ, List.set_cons_zero])
    refine wpE_only (i := 15) (oi := { dst := some 4, op := Go.Op.assign (Go.Operand.tmp 29), type := 23, pos := "ref.go:127", after := #[{ on := 13, ground := Go.Ground.data }, { on := 11, ground := Go.Ground.chain }, { on := 0, ground := Go.Ground.phase }, { on := 1, ground := Go.Ground.phase }, { on := 2, ground := Go.Ground.phase }, { on := 3, ground := Go.Ground.phase }, { on := 4, ground := Go.Ground.phase }, { on := 5, ground := Go.Ground.phase }, { on := 6, ground := Go.Ground.phase }, { on := 7, ground := Go.Ground.phase }, { on := 8, ground := Go.Ground.phase }, { on := 9, ground := Go.Ground.phase }, { on := 10, ground := Go.Ground.phase }, { on := 11, ground := Go.Ground.phase }, { on := 12, ground := Go.Ground.phase }, { on := 13, ground := Go.Ground.phase }, { on := 14, ground := Go.Ground.textOnly Go.Departure.lateStores }], guard := none }) rfl (by kernel_rfl) (by rfl) (fun K hK => ?_)
    go_simp; (try go_bits); refine hK _ _ hS ?_; clear hK K
    (try simp only [Act.put, List.setIfInBounds_toArray, List.set_cons_succ, List.set_cons_zero])
    refine wpE_last (oi := { dst := some 5, op := Go.Op.assign (Go.Operand.tmp 30), type := 4, pos := "ref.go:127", after := #[{ on := 14, ground := Go.Ground.data }, { on := 15, ground := Go.Ground.chain }, { on := 0, ground := Go.Ground.phase }, { on := 1, ground := Go.Ground.phase }, { on := 2, ground := Go.Ground.phase }, { on := 3, ground := Go.Ground.phase }, { on := 4, ground := Go.Ground.phase }, { on := 5, ground := Go.Ground.phase }, { on := 6, ground := Go.Ground.phase }, { on := 7, ground := Go.Ground.phase }, { on := 8, ground := Go.Ground.phase }, { on := 9, ground := Go.Ground.phase }, { on := 10, ground := Go.Ground.phase }, { on := 11, ground := Go.Ground.phase }, { on := 12, ground := Go.Ground.phase }, { on := 13, ground := Go.Ground.phase }, { on := 14, ground := Go.Ground.phase }, { on := 15, ground := Go.Ground.phase }], guard := none }) rfl (by kernel_rfl) (by kernel_rfl) (by rfl) (fun K hK => ?_)
    go_simp; (try go_bits); refine hK _ _ ?_; clear hK K
    clear hS k3 k10
    have hE := HE2.out
    clear HE2 y3 y10 c7
    cases o1 with
    | false =>
      have hp2 := hE.put (t' := { t with st := 3 }) hV 7 (.int .u64 3) rfl
      obtain ⟨k0, k1, k2, k3, k4, k5, k7, k8, k9, k10, kl⟩ := hE.er.cells
      have z7 := hE.er.froz 7
      obtain ⟨l0, l1, g0, g1, ll⟩ := hE.loc
      have hne := hE.ne
      generalize w.heap.size = lb at *
      have hnx : nextE t false o2 = { t with st := 3 } := by unfold nextE; rw [if_pos hs]; rfl
      have HX := Lib.hid (show resE t false o2 R = (if t.rg 40 = 0 then (0, 0, false) else R 1) ∧ whichE t false o2 = (if t.rg 40 = 0 then 1 else 1 + 10) ∧ nextE t false o2 = { t with st := 3 } from ⟨by simp [resE, hs, hnx, atE], by simp [whichE, hs, hnx, atE], hnx⟩)
      have HM := Lib.hid (HG.ms 1 rfl ({ t with st := 3 }) rfl _ _ hp2.er hp2.v)
      obtain ⟨R3, hR3⟩ : ∃ R3, (if t.rg 40 = 0 then (0, 0, false) else R 1) = R3 := ⟨_, rfl⟩
      rw [hR3] at HX HM
      have HP := Lib.hid hp2
      clear hE hp2 hnx hs hR3
      go_wp2_with fail
      ((with_reducible refine HM.out.mono ?_); rintro x w9 ⟨rfl, own9, hS9, hV9⟩)
      have hE9 := HP.out.call HG.hC hS9 hV9
      obtain ⟨l0, l1, g0, g1, ll⟩ := hE9.loc
      have HE9 := Lib.hid (hE9.lset hV R3.1 R3.2.1)
      clear HP HM hS9 hV9 hE9
      go_wp2
      refine bodyPost_ret (results_cell_tmp_row rfl _ _ lb 47 #[.int .i64 R3.1, .int .i64 R3.2.1] _ rfl HE9.out.2.2.2 Tryz.underlying47 rfl (by kernel_rfl)) rfl ?_
      rw [HX.out.1, HX.out.2.1, HX.out.2.2]
      exact ⟨rfl, _, HE9.out.1, HE9.out.2.1, HE9.out.2.2.1⟩
    | true =>
      have hEd := hE.drew hV
      have hA := HG.A2 rfl _ _ hEd.er hEd.v
      rw [wrapN] at hA
      have HA := Lib.hid hA
      obtain ⟨_, _, _, _, k4, _, _, _, _, k10, _⟩ := hE.er.cells
      have hr8 := hok.rg 8
      have HE := Lib.hid hEd
      clear hE hEd hA
      have hS : (fun (W' : World) => W'.cell? ⟨q, 4, none⟩ = some (.int .u64 (t.rg 8 : Int)) ∧ W'.cell? ⟨q, 10, none⟩ = some (.int .u64 (t.cp : Int))) w2 := ⟨k4, k10⟩
      go_wp2_with fail
      refine wpE_region (S := fun (W' : World) => W'.cell? ⟨q, 4, none⟩ = some (.int .u64 (t.rg 8 : Int)) ∧ W'.cell? ⟨q, 10, none⟩ = some (.int .u64 (t.cp : Int))) (s := 16) (by kernel_rfl) ?_
      have hS : (fun (W' : World) => W'.cell? ⟨q, 4, none⟩ = some (.int .u64 (t.rg 8 : Int)) ∧ W'.cell? ⟨q, 10, none⟩ = some (.int .u64 (t.cp : Int))) _ := hS
      refine wpE_take (i := 0) (oi := { dst := some 42, op := Go.Op.move (Go.Operand.tmp 0), type := 71, pos := "ref.go:132", after := #[], guard := none }) (v := ?_) rfl (by kernel_rfl) (fun _ _ _ h => h) (Or.inl ⟨by rfl, fun W hW => ?_⟩) hS ?_
      rotate_left
      · obtain ⟨hw1, hw2⟩ := hW; go_simp; (try go_bits); (try rw [if_pos (by omega)]); (try with_reducible rfl)
      (try simp only [Act.put, List.setIfInBounds_toArray, List.set_cons_succ, List.set_cons_zero])
      refine wpE_take (i := 1) (oi := { dst := some 43, op := Go.Op.move (Go.Operand.tmp 0), type := 71, pos := "ref.go:132", after := #[], guard := none }) (v := ?_) rfl (by kernel_rfl) (fun _ _ _ h => h) (Or.inl ⟨by rfl, fun W hW => ?_⟩) hS ?_
      rotate_left
      · obtain ⟨hw1, hw2⟩ := hW; go_simp; (try go_bits); (try rw [if_pos (by omega)]); (try with_reducible rfl)
      (try simp only [Act.put, List.setIfInBounds_toArray, List.set_cons_succ, List.set_cons_zero])
      refine wpE_take (i := 2) (oi := { dst := some 44, op := Go.Op.nilCheck (Go.Operand.tmp 43), type := 0, pos := "ref.go:132", after := #[{ on := 1, ground := Go.Ground.data }], guard := none }) (v := ?_) rfl (by kernel_rfl) (fun _ _ _ h => h) (Or.inl ⟨by rfl, fun W hW => ?_⟩) hS ?_
      rotate_left
      · obtain ⟨hw1, hw2⟩ := hW; go_simp; (try go_bits); (try rw [if_pos (by omega)]); (try with_reducible rfl)
      (try simp only [Act.put, List.setIfInBounds_toArray, List.set_cons_succ, List.set_cons_zero])
      refine wpE_take (i := 3) (oi := { dst := some 45, op := Go.Op.fieldAddr 74 (Go.Operand.tmp 44) 3, type := 0, pos := "ref.go:132", after := #[{ on := 2, ground := Go.Ground.data }], guard := none }) (v := ?_) rfl (by kernel_rfl) (fun _ _ _ h => h) (Or.inl ⟨by rfl, fun W hW => ?_⟩) hS ?_
      rotate_left
      · obtain ⟨hw1, hw2⟩ := hW; go_simp; (try go_bits); (try rw [if_pos (by omega)]); (try with_reducible rfl)
      (try simp only [Act.put, List.setIfInBounds_toArray, List.set_cons_succ, List.set_cons_zero])
      refine wpE_take (i := 4) (oi := { dst := some 46, op := Go.Op.indexAddr 72 (Go.Operand.tmp 45) (Go.Operand.const (Go.Value.int Go.IntKind.i64 1)), type := 0, pos := "ref.go:132", after := #[{ on := 3, ground := Go.Ground.data }], guard := none }) (v := ?_) rfl (by kernel_rfl) (fun _ _ _ h => h) (Or.inl ⟨by rfl, fun W hW => ?_⟩) hS ?_
      rotate_left
      · obtain ⟨hw1, hw2⟩ := hW; go_simp; (try go_bits); (try rw [if_pos (by omega)]); (try with_reducible rfl)
      (try simp only [Act.put, List.setIfInBounds_toArray, List.set_cons_succ, List.set_cons_zero])
      refine wpE_take (i := 5) (oi := { dst := some 47, op := Go.Op.load 23 (Go.Operand.tmp 46), type := 23, pos := "ref.go:132", after := #[{ on := 4, ground := Go.Ground.data }], guard := none }) (v := ?_) rfl (by kernel_rfl) (fun _ _ _ h => h) (Or.inl ⟨by rfl, fun W hW => ?_⟩) hS ?_
      rotate_left
      · obtain ⟨hw1, hw2⟩ := hW; go_simp; (try go_bits); (try rw [if_pos (by omega)]); (try with_reducible rfl)
      (try simp only [Act.put, List.setIfInBounds_toArray, List.set_cons_succ, List.set_cons_zero])
      refine wpE_take (i := 6) (oi := { dst := some 48, op := Go.Op.move (Go.Operand.tmp 0), type := 71, pos := "ref.go:132", after := #[], guard := none }) (v := ?_) rfl (by kernel_rfl) (fun _ _ _ h => h) (Or.inl ⟨by rfl, fun W hW => ?_⟩) hS ?_
      rotate_left
      · obtain ⟨hw1, hw2⟩ := hW; go_simp; (try go_bits); (try rw [if_pos (by omega)]); (try with_reducible rfl)
      (try simp only [Act.put, List.setIfInBounds_toArray, List.set_cons_succ, List.set_cons_zero])
      refine wpE_take (i := 7) (oi := { dst := some 49, op := Go.Op.nilCheck (Go.Operand.tmp 48), type := 0, pos := "ref.go:132", after := #[{ on := 6, ground := Go.Ground.data }], guard := none }) (v := ?_) rfl (by kernel_rfl) (fun _ _ _ h => h) (Or.inl ⟨by rfl, fun W hW => ?_⟩) hS ?_
      rotate_left
      · obtain ⟨hw1, hw2⟩ := hW; go_simp; (try go_bits); (try rw [if_pos (by omega)]); (try with_reducible rfl)
      (try simp only [Act.put, List.setIfInBounds_toArray, List.set_cons_succ, List.set_cons_zero])
      refine wpE_take (i := 8) (oi := { dst := some 50, op := Go.Op.fieldAddr 74 (Go.Operand.tmp 49) 4, type := 0, pos := "ref.go:132", after := #[{ on := 7, ground := Go.Ground.data }], guard := none }) (v := ?_) rfl (by kernel_rfl) (fun _ _ _ h => h) (Or.inl ⟨by rfl, fun W hW => ?_⟩) hS ?_
      rotate_left
      · obtain ⟨hw1, hw2⟩ := hW; go_simp; (try go_bits); (try rw [if_pos (by omega)]); (try with_reducible rfl)
      (try simp only [Act.put, List.setIfInBounds_toArray, List.set_cons_succ, List.set_cons_zero])
      refine wpE_take (i := 9) (oi := { dst := some 51, op := Go.Op.load 23 (Go.Operand.tmp 50), type := 23, pos := "ref.go:132", after := #[{ on := 8, ground := Go.Ground.data }], guard := none }) (v := ?_) rfl (by kernel_rfl) (fun _ _ _ h => h) (Or.inl ⟨by rfl, fun W hW => ?_⟩) hS ?_
      rotate_left
      · obtain ⟨hw1, hw2⟩ := hW; go_simp; (try go_bits); (try rw [if_pos (by omega)]); (try with_reducible rfl)
      (try simp only [Act.put, List.setIfInBounds_toArray, List.set_cons_succ, List.set_cons_zero])
      refine wpE_take (i := 10) (oi := { dst := some 52, op := Go.Op.binOp Go.BinOp.add 23 (Go.Operand.tmp 47) (Go.Operand.tmp 51) 23, type := 23, pos := "ref.go:132", after := #[{ on := 5, ground := Go.Ground.data }, { on := 9, ground := Go.Ground.data }], guard := none }) (v := ?_) rfl (by kernel_rfl) (fun _ _ _ h => h) (Or.inl ⟨by rfl, fun W hW => ?_⟩) hS ?_
      rotate_left
      · obtain ⟨hw1, hw2⟩ := hW; go_simp; (try go_bits); (try rw [if_pos (by omega)]); (try with_reducible rfl)
      (try simp only [Act.put, List.setIfInBounds_toArray, List.set_cons_succ, List.set_cons_zero])
      refine wpE_only (i := 11) (oi := { dst := some 53, op := Go.Op.call { callee := Go.Callee.value (Go.Operand.func 74), args := #[Go.Operand.tmp 42, Go.Operand.tmp 52, Go.Operand.const (Go.Value.bool true)], argTypes := #[71, 23, 4] }, type := 52, pos := "ref.go:132", after := #[{ on := 0, ground := Go.Ground.data }, { on := 10, ground := Go.Ground.data }], guard := none }) rfl (by kernel_rfl) (by rfl) (fun K hK => ?_)
      go_simp; refine HA.out.mono ?_; rintro x w3 ⟨rfl, own3, hS3, hV3⟩
      have hE3 := HE.out.call HG.hC hS3 hV3
      obtain ⟨_, _, _, _, y4, _, _, _, _, y10, _⟩ := hE3.er.cells
      have HE3 := Lib.hid hE3
      clear HE HA hS3 hV3 hE3 hS
      have hS : (fun (W' : World) => W'.cell? ⟨q, 4, none⟩ = some (.int .u64 (t.rg 8 : Int)) ∧ W'.cell? ⟨q, 10, none⟩ = some (.int .u64 (t.cp : Int))) w3 := ⟨y4, y10⟩
      refine hK _ _ hS ?_; clear hK K
      (try simp only [Act.put, List.setIfInBounds_toArray, List.set_cons_succ, List.set_cons_zero])
      refine wpE_take (i := 12) (oi := { dst := some 41, op := Go.Op.move (Go.Operand.tmp 53), type := 52, pos := "ref.go:132", after := #[{ on := 11, ground := Go.Ground.data }], guard := none }) (v := ?_) rfl (by kernel_rfl) (fun _ _ _ h => h) (Or.inl ⟨by rfl, fun W hW => ?_⟩) hS ?_
      rotate_left
      · obtain ⟨hw1, hw2⟩ := hW; go_simp; (try go_bits); (try rw [if_pos (by omega)]); (try with_reducible rfl)
      (try simp only [Act.put, List.setIfInBounds_toArray, List.set_cons_succ, List.set_cons_zero])
      refine wpE_take (i := 13) (oi := { dst := some 54, op := Go.Op.extract (Go.Operand.tmp 41) 0, type := 23, pos := "ref.go:132", after := #[{ on := 12, ground := Go.Ground.data }], guard := none }) (v := ?_) rfl (by kernel_rfl) (fun _ _ _ h => h) (Or.inl ⟨by rfl, fun W hW => ?_⟩) hS ?_
      rotate_left
      · obtain ⟨hw1, hw2⟩ := hW; go_simp; (try go_bits); (try rw [if_pos (by omega)]); (try with_reducible rfl)
      (try simp only [Act.put, List.setIfInBounds_toArray, List.set_cons_succ, List.set_cons_zero])
      refine wpE_take (i := 14) (oi := { dst := some 55, op := Go.Op.extract (Go.Operand.tmp 41) 1, type := 4, pos := "ref.go:132", after := #[{ on := 12, ground := Go.Ground.data }, { on := 15, ground := Go.Ground.gcOnly Go.Departure.lateStores }], guard := none }) (v := ?_) rfl (by kernel_rfl) (fun _ _ _ h => h) (Or.inl ⟨by rfl, fun W hW => ?_⟩) hS ?_
      rotate_left
      · obtain ⟨hw1, hw2⟩ := hW; go_simp; (try go_bits); (try rw [if_pos (by omega)]); (try with_reducible rfl)
      (try simp only [Act.put, List.setIfInBounds_toArray, List.set_cons_succ, List.set_cons_zero])
      refine wpE_only (i := 15) (oi := { dst := some 6, op := Go.Op.assign (Go.Operand.tmp 54), type := 23, pos := "ref.go:132", after := #[{ on := 13, ground := Go.Ground.data }, { on := 11, ground := Go.Ground.chain }, { on := 0, ground := Go.Ground.phase }, { on := 1, ground := Go.Ground.phase }, { on := 2, ground := Go.Ground.phase }, { on := 3, ground := Go.Ground.phase }, { on := 4, ground := Go.Ground.phase }, { on := 5, ground := Go.Ground.phase }, { on := 6, ground := Go.Ground.phase }, { on := 7, ground := Go.Ground.phase }, { on := 8, ground := Go.Ground.phase }, { on := 9, ground := Go.Ground.phase }, { on := 10, ground := Go.Ground.phase }, { on := 11, ground := Go.Ground.phase }, { on := 12, ground := Go.Ground.phase }, { on := 13, ground := Go.Ground.phase }, { on := 14, ground := Go.Ground.textOnly Go.Departure.lateStores }], guard := none }) rfl (by kernel_rfl) (by rfl) (fun K hK => ?_)
      go_simp; (try go_bits); refine hK _ _ hS ?_; clear hK K
      (try simp only [Act.put, List.setIfInBounds_toArray, List.set_cons_succ, List.set_cons_zero])
      refine wpE_last (oi := { dst := some 5, op := Go.Op.assign (Go.Operand.tmp 55), type := 4, pos := "ref.go:132", after := #[{ on := 14, ground := Go.Ground.data }, { on := 15, ground := Go.Ground.chain }, { on := 0, ground := Go.Ground.phase }, { on := 1, ground := Go.Ground.phase }, { on := 2, ground := Go.Ground.phase }, { on := 3, ground := Go.Ground.phase }, { on := 4, ground := Go.Ground.phase }, { on := 5, ground := Go.Ground.phase }, { on := 6, ground := Go.Ground.phase }, { on := 7, ground := Go.Ground.phase }, { on := 8, ground := Go.Ground.phase }, { on := 9, ground := Go.Ground.phase }, { on := 10, ground := Go.Ground.phase }, { on := 11, ground := Go.Ground.phase }, { on := 12, ground := Go.Ground.phase }, { on := 13, ground := Go.Ground.phase }, { on := 14, ground := Go.Ground.phase }, { on := 15, ground := Go.Ground.phase }], guard := none }) rfl (by kernel_rfl) (by kernel_rfl) (by rfl) (fun K hK => ?_)
      go_simp; (try go_bits); refine hK _ _ ?_; clear hK K
      clear hS k4 k10
      have hE := HE3.out
      clear HE3 y4 y10
      cases o2 with
      | false =>
        have hp2 := hE.put (t' := { t with st := 3 }) hV 7 (.int .u64 3) rfl
        obtain ⟨k0, k1, k2, k3, k4, k5, k7, k8, k9, k10, kl⟩ := hE.er.cells
        have z7 := hE.er.froz 7
        obtain ⟨l0, l1, g0, g1, ll⟩ := hE.loc
        have hne := hE.ne
        generalize w.heap.size = lb at *
        have hnx : nextE t true false = { t with st := 3 } := by unfold nextE; rw [if_pos hs]; rfl
        have HX := Lib.hid (show resE t true false R = (if t.rg 40 = 0 then (0, 0, false) else R 2) ∧ whichE t true false = (if t.rg 40 = 0 then 2 else 2 + 10) ∧ nextE t true false = { t with st := 3 } from ⟨by simp [resE, hs, hnx, atE], by simp [whichE, hs, hnx, atE], hnx⟩)
        have HM := Lib.hid (HG.ms 2 rfl ({ t with st := 3 }) rfl _ _ hp2.er hp2.v)
        obtain ⟨R3, hR3⟩ : ∃ R3, (if t.rg 40 = 0 then (0, 0, false) else R 2) = R3 := ⟨_, rfl⟩
        rw [hR3] at HX HM
        have HP := Lib.hid hp2
        clear hE hp2 hnx hs hR3
        go_wp2_with fail
        ((with_reducible refine HM.out.mono ?_); rintro x w9 ⟨rfl, own9, hS9, hV9⟩)
        have hE9 := HP.out.call HG.hC hS9 hV9
        obtain ⟨l0, l1, g0, g1, ll⟩ := hE9.loc
        have HE9 := Lib.hid (hE9.lset hV R3.1 R3.2.1)
        clear HP HM hS9 hV9 hE9
        go_wp2
        refine bodyPost_ret (results_cell_tmp_row rfl _ _ lb 47 #[.int .i64 R3.1, .int .i64 R3.2.1] _ rfl HE9.out.2.2.2 Tryz.underlying47 rfl (by kernel_rfl)) rfl ?_
        rw [HX.out.1, HX.out.2.1, HX.out.2.2]
        exact ⟨rfl, _, HE9.out.1, HE9.out.2.1, HE9.out.2.2.1⟩
      | true =>
        obtain ⟨_, k1, _⟩ := hE.er.cells
        have HRd := Lib.hid (HG.rd rfl rfl _ _ hE.v)
        have HE := Lib.hid hE
        clear hE
        go_wp2_with fail
        ((with_reducible refine HRd.out.mono ?_); rintro x w4 ⟨gd, rfl, own4, hS4, hV4⟩)
        have hE4 := HE.out.call HG.hC hS4 hV4
        clear HE HRd hS4 hV4 k1
        obtain ⟨_, k1, _⟩ := hE4.er.cells
        have HWr := Lib.hid (HG.wr rfl rfl _ _ hE4.v)
        have HE := Lib.hid hE4
        clear hE4
        go_wp2_with fail
        ((with_reducible refine HWr.out.mono ?_); rintro x w5 ⟨gw, rfl, own5, hS5, hV5⟩)
        have hE := HE.out.call HG.hC hS5 hV5
        clear HE HWr hS5 hV5 k1
        obtain ⟨hq2, hq3⟩ := hok.run hs
        obtain ⟨k0, k1, k2, k3, k4, k5, k7, k8, k9, k10, kl⟩ := hE.er.cells
        have z7 := hE.er.froz 7
        have z10 := hE.er.froz 10
        obtain ⟨l0, l1, g0, g1, ll⟩ := hE.loc
        have hne := hE.ne
        have hr16 := hok.rg 16
        have hcp8 : IntKind.u64.wrap ((t.cp : Int) + 8) = ((t.cp + 8 : Nat) : Int) := by rw [IntWalk.u64_in _ (by omega)]; omega
        have hp1 := hE.put (t' := { t with cp := t.cp + 8 }) hV 10 (.int .u64 (IntKind.u64.wrap ((t.cp : Int) + 8))) (by rw [hcp8]; rfl)
        have hp1d := hp1.drew hV
        have y10 : ((w5.setCell ⟨q, 10, none⟩ (.int .u64 (IntKind.u64.wrap ((t.cp : Int) + 8)))).drew).cell? ⟨q, 10, none⟩ = some (.int .u64 (IntKind.u64.wrap ((t.cp : Int) + 8))) := by rw [hcp8]; rw [hcp8] at hp1d; exact hp1d.er.cells.2.2.2.2.2.2.2.2.2.1
        have y5 := hp1d.er.cells.2.2.2.2.2.1
        generalize w.heap.size = lb at *
        by_cases hlt2 : t.cp + 8 < t.rg 16
        · have hlt3 : decide (IntKind.u64.wrap ((t.cp : Int) + 8) < (t.rg 16 : Int)) = true := by rw [hcp8]; simp; omega
          have hnx : nextE t true true = { t with cp := t.cp + 8 } := by unfold nextE; rw [if_pos hs]; simp [hlt2]
          have HX := Lib.hid (show resE t true true R = (0, 0, false) ∧ whichE t true true = 4 ∧ nextE t true true = { t with cp := t.cp + 8 } from ⟨by simp [resE, hs, hnx], by simp [whichE, hs, hnx, atE], hnx⟩)
          have HP := Lib.hid (hp1d.lset hV 0 0)
          clear hE hp1 hp1d hs hnx hlt2 hq2 hq3 hcp8
          go_wp2_with fail
          refine wpE_region (S := fun (W' : World) => W'.cell? ⟨q, 10, none⟩ = some (.int .u64 (IntKind.u64.wrap ((t.cp : Int) + 8))) ∧ W'.cell? ⟨q, 5, none⟩ = some (.int .u64 (t.rg 16 : Int))) (s := 9) (by kernel_rfl) ?_
          have hS : (fun (W' : World) => W'.cell? ⟨q, 10, none⟩ = some (.int .u64 (IntKind.u64.wrap ((t.cp : Int) + 8))) ∧ W'.cell? ⟨q, 5, none⟩ = some (.int .u64 (t.rg 16 : Int))) _ := ⟨y10, y5⟩
          refine wpE_take (i := 0) (oi := { dst := some 90, op := Go.Op.move (Go.Operand.tmp 0), type := 71, pos := "ref.go:140", after := #[], guard := none }) (v := ?_) rfl (by kernel_rfl) (fun _ _ _ h => h) (Or.inl ⟨by rfl, fun W hW => ?_⟩) hS ?_
          rotate_left
          · obtain ⟨hw1, hw2⟩ := hW; go_simp; (try go_bits); (try rw [if_pos (by omega)]); (try with_reducible rfl)
          (try simp only [Act.put, List.setIfInBounds_toArray, List.set_cons_succ, List.set_cons_zero])
          refine wpE_take (i := 1) (oi := { dst := some 91, op := Go.Op.nilCheck (Go.Operand.tmp 90), type := 0, pos := "ref.go:140", after := #[{ on := 0, ground := Go.Ground.data }], guard := none }) (v := ?_) rfl (by kernel_rfl) (fun _ _ _ h => h) (Or.inl ⟨by rfl, fun W hW => ?_⟩) hS ?_
          rotate_left
          · obtain ⟨hw1, hw2⟩ := hW; go_simp; (try go_bits); (try rw [if_pos (by omega)]); (try with_reducible rfl)
          (try simp only [Act.put, List.setIfInBounds_toArray, List.set_cons_succ, List.set_cons_zero])
          refine wpE_take (i := 2) (oi := { dst := some 92, op := Go.Op.fieldAddr 74 (Go.Operand.tmp 91) 4, type := 0, pos := "ref.go:140", after := #[{ on := 1, ground := Go.Ground.data }], guard := none }) (v := ?_) rfl (by kernel_rfl) (fun _ _ _ h => h) (Or.inl ⟨by rfl, fun W hW => ?_⟩) hS ?_
          rotate_left
          · obtain ⟨hw1, hw2⟩ := hW; go_simp; (try go_bits); (try rw [if_pos (by omega)]); (try with_reducible rfl)
          (try simp only [Act.put, List.setIfInBounds_toArray, List.set_cons_succ, List.set_cons_zero])
          refine wpE_take (i := 3) (oi := { dst := some 93, op := Go.Op.load 23 (Go.Operand.tmp 92), type := 23, pos := "ref.go:140", after := #[{ on := 2, ground := Go.Ground.data }], guard := none }) (v := ?_) rfl (by kernel_rfl) (fun _ _ _ h => h) (Or.inl ⟨by rfl, fun W hW => ?_⟩) hS ?_
          rotate_left
          · obtain ⟨hw1, hw2⟩ := hW; go_simp; (try go_bits); (try rw [if_pos (by omega)]); (try with_reducible rfl)
          (try simp only [Act.put, List.setIfInBounds_toArray, List.set_cons_succ, List.set_cons_zero])
          refine wpE_take (i := 4) (oi := { dst := some 94, op := Go.Op.move (Go.Operand.tmp 0), type := 71, pos := "ref.go:140", after := #[], guard := none }) (v := ?_) rfl (by kernel_rfl) (fun _ _ _ h => h) (Or.inl ⟨by rfl, fun W hW => ?_⟩) hS ?_
          rotate_left
          · obtain ⟨hw1, hw2⟩ := hW; go_simp; (try go_bits); (try rw [if_pos (by omega)]); (try with_reducible rfl)
          (try simp only [Act.put, List.setIfInBounds_toArray, List.set_cons_succ, List.set_cons_zero])
          refine wpE_take (i := 5) (oi := { dst := some 95, op := Go.Op.nilCheck (Go.Operand.tmp 94), type := 0, pos := "ref.go:140", after := #[{ on := 4, ground := Go.Ground.data }], guard := none }) (v := ?_) rfl (by kernel_rfl) (fun _ _ _ h => h) (Or.inl ⟨by rfl, fun W hW => ?_⟩) hS ?_
          rotate_left
          · obtain ⟨hw1, hw2⟩ := hW; go_simp; (try go_bits); (try rw [if_pos (by omega)]); (try with_reducible rfl)
          (try simp only [Act.put, List.setIfInBounds_toArray, List.set_cons_succ, List.set_cons_zero])
          refine wpE_take (i := 6) (oi := { dst := some 96, op := Go.Op.fieldAddr 74 (Go.Operand.tmp 95) 3, type := 0, pos := "ref.go:140", after := #[{ on := 5, ground := Go.Ground.data }], guard := none }) (v := ?_) rfl (by kernel_rfl) (fun _ _ _ h => h) (Or.inl ⟨by rfl, fun W hW => ?_⟩) hS ?_
          rotate_left
          · obtain ⟨hw1, hw2⟩ := hW; go_simp; (try go_bits); (try rw [if_pos (by omega)]); (try with_reducible rfl)
          (try simp only [Act.put, List.setIfInBounds_toArray, List.set_cons_succ, List.set_cons_zero])
          refine wpE_take (i := 7) (oi := { dst := some 97, op := Go.Op.indexAddr 72 (Go.Operand.tmp 96) (Go.Operand.const (Go.Value.int Go.IntKind.i64 2)), type := 0, pos := "ref.go:140", after := #[{ on := 6, ground := Go.Ground.data }], guard := none }) (v := ?_) rfl (by kernel_rfl) (fun _ _ _ h => h) (Or.inl ⟨by rfl, fun W hW => ?_⟩) hS ?_
          rotate_left
          · obtain ⟨hw1, hw2⟩ := hW; go_simp; (try go_bits); (try rw [if_pos (by omega)]); (try with_reducible rfl)
          (try simp only [Act.put, List.setIfInBounds_toArray, List.set_cons_succ, List.set_cons_zero])
          refine wpE_take (i := 8) (oi := { dst := some 98, op := Go.Op.load 23 (Go.Operand.tmp 97), type := 23, pos := "ref.go:140", after := #[{ on := 7, ground := Go.Ground.data }], guard := none }) (v := ?_) rfl (by kernel_rfl) (fun _ _ _ h => h) (Or.inl ⟨by rfl, fun W hW => ?_⟩) hS ?_
          rotate_left
          · obtain ⟨hw1, hw2⟩ := hW; go_simp; (try go_bits); (try rw [if_pos (by omega)]); (try with_reducible rfl)
          (try simp only [Act.put, List.setIfInBounds_toArray, List.set_cons_succ, List.set_cons_zero])
          refine wpE_last (oi := { dst := some 99, op := Go.Op.binOp Go.BinOp.lss 23 (Go.Operand.tmp 93) (Go.Operand.tmp 98) 23, type := 4, pos := "ref.go:140", after := #[{ on := 3, ground := Go.Ground.data }, { on := 8, ground := Go.Ground.data }], guard := none }) rfl (by kernel_rfl) (by kernel_rfl) (by rfl) (fun K hK => ?_)
          go_simp; (try go_bits); refine hK _ _ ?_; clear hK K
          go_wp2
          refine bodyPost_ret (results_cell_tmp_row rfl _ _ lb 47 #[.int .i64 0, .int .i64 0] _ rfl HP.out.2.2.2 Tryz.underlying47 rfl (by kernel_rfl)) rfl ?_
          rw [HX.out.1, HX.out.2.1, HX.out.2.2]
          exact ⟨rfl, _, HP.out.1, HP.out.2.1, HP.out.2.2.1⟩
        · have hlt3 : decide (IntKind.u64.wrap ((t.cp : Int) + 8) < (t.rg 16 : Int)) = false := by rw [hcp8]; simp; omega
          have hp2 := (hp1.put (t' := { t with st := 2, cp := t.cp + 8 }) hV 7 (.int .u64 2) rfl).drew hV
          clear hq2 hq3 hcp8
          go_wp2_with fail
          refine wpE_region (S := fun (W' : World) => W'.cell? ⟨q, 10, none⟩ = some (.int .u64 (IntKind.u64.wrap ((t.cp : Int) + 8))) ∧ W'.cell? ⟨q, 5, none⟩ = some (.int .u64 (t.rg 16 : Int))) (s := 9) (by kernel_rfl) ?_
          have hS : (fun (W' : World) => W'.cell? ⟨q, 10, none⟩ = some (.int .u64 (IntKind.u64.wrap ((t.cp : Int) + 8))) ∧ W'.cell? ⟨q, 5, none⟩ = some (.int .u64 (t.rg 16 : Int))) _ := ⟨y10, y5⟩
          refine wpE_take (i := 0) (oi := { dst := some 90, op := Go.Op.move (Go.Operand.tmp 0), type := 71, pos := "ref.go:140", after := #[], guard := none }) (v := ?_) rfl (by kernel_rfl) (fun _ _ _ h => h) (Or.inl ⟨by rfl, fun W hW => ?_⟩) hS ?_
          rotate_left
          · obtain ⟨hw1, hw2⟩ := hW; go_simp; (try go_bits); (try rw [if_pos (by omega)]); (try with_reducible rfl)
          (try simp only [Act.put, List.setIfInBounds_toArray, List.set_cons_succ, List.set_cons_zero])
          refine wpE_take (i := 1) (oi := { dst := some 91, op := Go.Op.nilCheck (Go.Operand.tmp 90), type := 0, pos := "ref.go:140", after := #[{ on := 0, ground := Go.Ground.data }], guard := none }) (v := ?_) rfl (by kernel_rfl) (fun _ _ _ h => h) (Or.inl ⟨by rfl, fun W hW => ?_⟩) hS ?_
          rotate_left
          · obtain ⟨hw1, hw2⟩ := hW; go_simp; (try go_bits); (try rw [if_pos (by omega)]); (try with_reducible rfl)
          (try simp only [Act.put, List.setIfInBounds_toArray, List.set_cons_succ, List.set_cons_zero])
          refine wpE_take (i := 2) (oi := { dst := some 92, op := Go.Op.fieldAddr 74 (Go.Operand.tmp 91) 4, type := 0, pos := "ref.go:140", after := #[{ on := 1, ground := Go.Ground.data }], guard := none }) (v := ?_) rfl (by kernel_rfl) (fun _ _ _ h => h) (Or.inl ⟨by rfl, fun W hW => ?_⟩) hS ?_
          rotate_left
          · obtain ⟨hw1, hw2⟩ := hW; go_simp; (try go_bits); (try rw [if_pos (by omega)]); (try with_reducible rfl)
          (try simp only [Act.put, List.setIfInBounds_toArray, List.set_cons_succ, List.set_cons_zero])
          refine wpE_take (i := 3) (oi := { dst := some 93, op := Go.Op.load 23 (Go.Operand.tmp 92), type := 23, pos := "ref.go:140", after := #[{ on := 2, ground := Go.Ground.data }], guard := none }) (v := ?_) rfl (by kernel_rfl) (fun _ _ _ h => h) (Or.inl ⟨by rfl, fun W hW => ?_⟩) hS ?_
          rotate_left
          · obtain ⟨hw1, hw2⟩ := hW; go_simp; (try go_bits); (try rw [if_pos (by omega)]); (try with_reducible rfl)
          (try simp only [Act.put, List.setIfInBounds_toArray, List.set_cons_succ, List.set_cons_zero])
          refine wpE_take (i := 4) (oi := { dst := some 94, op := Go.Op.move (Go.Operand.tmp 0), type := 71, pos := "ref.go:140", after := #[], guard := none }) (v := ?_) rfl (by kernel_rfl) (fun _ _ _ h => h) (Or.inl ⟨by rfl, fun W hW => ?_⟩) hS ?_
          rotate_left
          · obtain ⟨hw1, hw2⟩ := hW; go_simp; (try go_bits); (try rw [if_pos (by omega)]); (try with_reducible rfl)
          (try simp only [Act.put, List.setIfInBounds_toArray, List.set_cons_succ, List.set_cons_zero])
          refine wpE_take (i := 5) (oi := { dst := some 95, op := Go.Op.nilCheck (Go.Operand.tmp 94), type := 0, pos := "ref.go:140", after := #[{ on := 4, ground := Go.Ground.data }], guard := none }) (v := ?_) rfl (by kernel_rfl) (fun _ _ _ h => h) (Or.inl ⟨by rfl, fun W hW => ?_⟩) hS ?_
          rotate_left
          · obtain ⟨hw1, hw2⟩ := hW; go_simp; (try go_bits); (try rw [if_pos (by omega)]); (try with_reducible rfl)
          (try simp only [Act.put, List.setIfInBounds_toArray, List.set_cons_succ, List.set_cons_zero])
          refine wpE_take (i := 6) (oi := { dst := some 96, op := Go.Op.fieldAddr 74 (Go.Operand.tmp 95) 3, type := 0, pos := "ref.go:140", after := #[{ on := 5, ground := Go.Ground.data }], guard := none }) (v := ?_) rfl (by kernel_rfl) (fun _ _ _ h => h) (Or.inl ⟨by rfl, fun W hW => ?_⟩) hS ?_
          rotate_left
          · obtain ⟨hw1, hw2⟩ := hW; go_simp; (try go_bits); (try rw [if_pos (by omega)]); (try with_reducible rfl)
          (try simp only [Act.put, List.setIfInBounds_toArray, List.set_cons_succ, List.set_cons_zero])
          refine wpE_take (i := 7) (oi := { dst := some 97, op := Go.Op.indexAddr 72 (Go.Operand.tmp 96) (Go.Operand.const (Go.Value.int Go.IntKind.i64 2)), type := 0, pos := "ref.go:140", after := #[{ on := 6, ground := Go.Ground.data }], guard := none }) (v := ?_) rfl (by kernel_rfl) (fun _ _ _ h => h) (Or.inl ⟨by rfl, fun W hW => ?_⟩) hS ?_
          rotate_left
          · obtain ⟨hw1, hw2⟩ := hW; go_simp; (try go_bits); (try rw [if_pos (by omega)]); (try with_reducible rfl)
          (try simp only [Act.put, List.setIfInBounds_toArray, List.set_cons_succ, List.set_cons_zero])
          refine wpE_take (i := 8) (oi := { dst := some 98, op := Go.Op.load 23 (Go.Operand.tmp 97), type := 23, pos := "ref.go:140", after := #[{ on := 7, ground := Go.Ground.data }], guard := none }) (v := ?_) rfl (by kernel_rfl) (fun _ _ _ h => h) (Or.inl ⟨by rfl, fun W hW => ?_⟩) hS ?_
          rotate_left
          · obtain ⟨hw1, hw2⟩ := hW; go_simp; (try go_bits); (try rw [if_pos (by omega)]); (try with_reducible rfl)
          (try simp only [Act.put, List.setIfInBounds_toArray, List.set_cons_succ, List.set_cons_zero])
          refine wpE_last (oi := { dst := some 99, op := Go.Op.binOp Go.BinOp.lss 23 (Go.Operand.tmp 93) (Go.Operand.tmp 98) 23, type := 4, pos := "ref.go:140", after := #[{ on := 3, ground := Go.Ground.data }, { on := 8, ground := Go.Ground.data }], guard := none }) rfl (by kernel_rfl) (by kernel_rfl) (by rfl) (fun K hK => ?_)
          go_simp; (try go_bits); refine hK _ _ ?_; clear hK K
          clear hS
          have hnx : nextE t true true = { t with st := 2, cp := t.cp + 8 } := by unfold nextE; rw [if_pos hs]; simp [hlt2]
          have HX := Lib.hid (show resE t true true R = (if t.rg 40 = 0 then (0, 0, false) else R 4) ∧ whichE t true true = (if t.rg 40 = 0 then 4 else 4 + 10) ∧ nextE t true true = { t with st := 2, cp := t.cp + 8 } from ⟨by simp [resE, hs, hnx, atE], by simp [whichE, hs, hnx, atE], hnx⟩)
          have HM := Lib.hid (HG.ms 4 rfl ({ t with st := 2, cp := t.cp + 8 }) rfl _ _ hp2.er hp2.v)
          obtain ⟨R3, hR3⟩ : ∃ R3, (if t.rg 40 = 0 then (0, 0, false) else R 4) = R3 := ⟨_, rfl⟩
          rw [hR3] at HX HM
          have HP := Lib.hid hp2
          clear hE hp1 hp1d hp2 hlt2 hnx hs hR3
          go_wp2_with fail
          ((with_reducible refine HM.out.mono ?_); rintro x w9 ⟨rfl, own9, hS9, hV9⟩)
          have hE9 := HP.out.call HG.hC hS9 hV9
          obtain ⟨l0, l1, g0, g1, ll⟩ := hE9.loc
          have HE9 := Lib.hid (hE9.lset hV R3.1 R3.2.1)
          clear HP HM hS9 hV9 hE9
          go_wp2
          refine bodyPost_ret (results_cell_tmp_row rfl _ _ lb 47 #[.int .i64 R3.1, .int .i64 R3.2.1] _ rfl HE9.out.2.2.2 Tryz.underlying47 rfl (by kernel_rfl)) rfl ?_
          rw [HX.out.1, HX.out.2.1, HX.out.2.2]
          exact ⟨rfl, _, HE9.out.1, HE9.out.2.1, HE9.out.2.2.1⟩
  · rw [show resE t o1 o2 R = (0, 0, false) from if_neg hs, show nextE t o1 o2 = t from if_neg hs, show whichE t o1 o2 = 0 from if_neg hs]
    have es : ((t.st : Int) != 1) = true := by simp; omega
    have HE := Lib.hid hE0
    clear hE0 h hok H hs
    go_enter Tryz.func50, Tryz.ntmps50
    go_wp2
    refine bodyPost_ret (results_cell_tmp_row rfl _ _ w.heap.size 47 #[.int .i64 0, .int .i64 0] _ rfl HE.out.bl Tryz.underlying47 rfl (by kernel_rfl)) rfl ?_
    exact ⟨rfl, _, HE.out.st, HE.out.er, HE.out.v⟩
end
end Go.Proofs.YtonhlgfgbdiapaaGreat

/- The engine: Read; Flat; a flat way. -/
namespace Go.Proofs.YtonhlgfgbdiapaaGreat
set_option linter.unusedVariables false
set_option linter.unusedSimpArgs false
open Go.RowKit Go.Maps
set_option maxRecDepth 100000

section
variable {own own' : Nat → Nat} {c e mp rb b : Nat} {way rd : Value} {w w' : World} {s s' : Eg}
set_option maxHeartbeats 3000000 in
theorem eng_Read (h : EngAt own c w e mp way s) (hok : EgOk s) (off : Nat) (hoff : off < 18446744073709551616) (size : Int) (hs0 : -9223372036854775808 ≤ size) (hs1 : size ≤ 9223372036854775807) :
    Calls Tryz.prog 12 #[.pointer (some ⟨e, 0, none⟩), .int .u64 (off : Int), .int .i64 size] w fun x w' => x = .returned (.tuple #[.int .u64 (readE s off size : Int), .bool (fitsE off size)]) ∧ ∃ own', Step (· = c) own w own' w' ∧ EngAt own' c w' e mp way s := by
  have HFi := Lib.hid (eng_fits off hoff size hs0 hs1 w)
  cases hf : fitsE off size with
  | false =>
    rw [hf] at HFi
    rw [show readE s off size = 0 from by unfold readE; rw [hf]; rfl]
    have HF := Lib.hid (And.intro (Step.refl (· = c) own w) h)
    clear h hok hf
    go_enter Tryz.func12, Tryz.ntmps12
    go_wp2_with fail
    ((with_reducible refine HFi.out.mono ?_); rintro x wz ⟨rfl, rfl⟩)
    clear HFi
    go_wp2
    go_ret2
    exact ⟨rfl, _, HF.out⟩
  | true =>
    rw [hf] at HFi
    obtain ⟨hsz, hmod, hoff2⟩ : (size = 4 ∨ size = 8) ∧ (off : Int) % size = 0 ∧ off < 56 := by
      unfold fitsE at hf
      simp only [Bool.and_eq_true, Bool.or_eq_true, beq_iff_eq, decide_eq_true_eq] at hf
      exact ⟨hf.1.1, hf.1.2, hf.2⟩
    have hrd : readE s off size = if size = 8 then regE s (off / 8 * 8) else regE s (off / 8 * 8) / 2 ^ (8 * (off % 8)) % 4294967296 := by unfold readE; rw [hf]; rfl
    rw [hrd]
    have hrg := eng_register h off hoff2
    obtain ⟨k, hk⟩ : ∃ k, off / 8 * 8 = k := ⟨_, rfl⟩
    rw [hk] at hrg ⊢
    have hb := hok.rg
    have hst := hok.st
    have key : ∀ V : Nat, V < 18446744073709551616 → V = regE s k → True := fun _ _ _ => trivial
    have hV : regE s k < 18446744073709551616 := by unfold regE; split; decide; split; omega; exact hb k
    obtain ⟨V, hVe⟩ : ∃ V, regE s k = V := ⟨_, rfl⟩
    rw [hVe] at hV ⊢
    have hrv : ∃ f, (kvGet (rdsL e) k).getD .nilFunc = bmE f e ∧ (f = 38 ∨ f = 39 ∨ f = 41 ∨ f = 62 ∨ f = 63 ∨ f = 42 ∨ f = 43) ∧
        ∀ (own' : Nat → Nat) (w' : World), EngAt own' c w' e mp way s → Calls Tryz.prog f #[.pointer (some ⟨e, 0, none⟩)] w' fun x w'' => x = .returned (.int .u64 (V : Int)) ∧ w' = w'' := by
      rcases (show k = 0 ∨ k = 8 ∨ k = 16 ∨ k = 24 ∨ k = 32 ∨ k = 40 ∨ k = 48 by omega) with rfl | rfl | rfl | rfl | rfl | rfl | rfl
      · exact ⟨_, rfl, by decide, fun _ _ h => by rw [← hVe]; exact eng_src h⟩
      · exact ⟨_, rfl, by decide, fun _ _ h => by rw [← hVe]; exact eng_dst h⟩
      · exact ⟨_, rfl, by decide, fun _ _ h => by rw [← hVe]; exact eng_len h⟩
      · exact ⟨_, rfl, by decide, fun _ _ h => by rw [← hVe]; exact eng_control _⟩
      · exact ⟨_, rfl, by decide, fun _ _ h => by rw [← hVe]; exact eng_status h⟩
      · exact ⟨_, rfl, by decide, fun _ _ h => by rw [← hVe]; exact eng_msi h⟩
      · exact ⟨_, rfl, by decide, fun _ _ h => by rw [← hVe]; exact eng_data h⟩
    obtain ⟨f, hbm, hfs, hC⟩ := hrv
    rw [hbm] at hrg
    unfold bmE at hrg
    have HRg := Lib.hid hrg
    have HC := Lib.hid hC
    have ha4 := and4_u off hoff2
    have hfin : (if size = 8 then V else V / 2 ^ (8 * (off % 8)) % 4294967296) = if size = 8 then V else if off / 4 % 2 = 1 then V / 4294967296 else V % 4294967296 := by
      rcases hsz with rfl | rfl
      · rw [if_neg (by decide), if_neg (by decide)]
        by_cases h4 : off / 4 % 2 = 1
        · rw [if_pos h4, show off % 8 = 4 by omega]; omega
        · rw [if_neg h4, show off % 8 = 0 by omega]; omega
      · rfl
    rw [hfin]
    clear hrg hC hbm h hok hf hrd hb hst key hVe hfin hk
    rcases hsz with rfl | rfl
    · by_cases h4 : off / 4 % 2 = 1
      · rw [if_neg (by decide), if_pos h4, show ((V / 4294967296 : Nat) : Int) = (V : Int) / 4294967296 by omega]
        rw [h4] at ha4
        have ha4' : bits .and .u64 (off : Int) 4 = 4 := ha4
        clear ha4 h4 hmod
        rcases hfs with rfl | rfl | rfl | rfl | rfl | rfl | rfl
        all_goals
          go_enter Tryz.func12, Tryz.ntmps12
          go_wp2_with fail
          ((with_reducible refine HFi.out.mono ?_); rintro x wz ⟨rfl, rfl⟩)
          clear HFi
          go_wp2_with fail
          ((with_reducible refine HRg.out.mono ?_); rintro x w1 ⟨rfl, own1, hS1, hE1⟩)
          have HF := Lib.hid (And.intro hS1 hE1)
          have HCC := Lib.hid (HC.out _ _ hE1)
          clear hS1 hE1 HRg HC
          go_wp2_with fail
          ((with_reducible refine HCC.out.mono ?_); rintro x wz ⟨rfl, rfl⟩)
          clear HCC
          go_wp2
          go_ret2
          exact ⟨rfl, _, HF.out⟩
      · rw [if_neg (by decide), if_neg h4, show ((V % 4294967296 : Nat) : Int) = (V : Int) % 4294967296 by omega]
        rw [show off / 4 % 2 = 0 by omega] at ha4
        have ha4' : bits .and .u64 (off : Int) 4 = 0 := ha4
        clear ha4 h4 hmod
        rcases hfs with rfl | rfl | rfl | rfl | rfl | rfl | rfl
        all_goals
          go_enter Tryz.func12, Tryz.ntmps12
          go_wp2_with fail
          ((with_reducible refine HFi.out.mono ?_); rintro x wz ⟨rfl, rfl⟩)
          clear HFi
          go_wp2_with fail
          ((with_reducible refine HRg.out.mono ?_); rintro x w1 ⟨rfl, own1, hS1, hE1⟩)
          have HF := Lib.hid (And.intro hS1 hE1)
          have HCC := Lib.hid (HC.out _ _ hE1)
          clear hS1 hE1 HRg HC
          go_wp2_with fail
          ((with_reducible refine HCC.out.mono ?_); rintro x wz ⟨rfl, rfl⟩)
          clear HCC
          go_wp2
          go_ret2
          exact ⟨rfl, _, HF.out⟩
    · rw [if_pos rfl]
      clear ha4 hmod
      rcases hfs with rfl | rfl | rfl | rfl | rfl | rfl | rfl
      all_goals
        go_enter Tryz.func12, Tryz.ntmps12
        go_wp2_with fail
        ((with_reducible refine HFi.out.mono ?_); rintro x wz ⟨rfl, rfl⟩)
        clear HFi
        go_wp2_with fail
        ((with_reducible refine HRg.out.mono ?_); rintro x w1 ⟨rfl, own1, hS1, hE1⟩)
        have HF := Lib.hid (And.intro hS1 hE1)
        have HCC := Lib.hid (HC.out _ _ hE1)
        clear hS1 hE1 HRg HC
        go_wp2_with fail
        ((with_reducible refine HCC.out.mono ?_); rintro x wz ⟨rfl, rfl⟩)
        clear HCC
        go_wp2
        go_ret2
        exact ⟨rfl, _, HF.out⟩
end
end Go.Proofs.YtonhlgfgbdiapaaGreat

/- The engine's laws, plain. -/
namespace Go.Proofs.YtonhlgfgbdiapaaGreat
set_option linter.unusedVariables false
set_option linter.unusedSimpArgs false
open Go.RowKit
/-- told three places and begun by a write of its control -/
def toldE (a b k : Nat) : Eg := putE (putE (putE eg0 0 a) 8 b) 16 k
theorem tellE (a b k : Nat) : writeE (writeE (writeE eg0 0 8 a) 8 8 b) 16 8 k = toldE a b k := by
  have h : ∀ (s : Eg) (o v : Nat), s.st ≠ 1 → (o = 0 ∨ o = 8 ∨ o = 16) → writeE s o 8 v = putE s o v := by
    rintro s o v hs (rfl | rfl | rfl)
    all_goals simp [writeE, setE, fitsE, hs]
  rw [h eg0 0 a (show (0 : Nat) ≠ 1 by decide) (.inl rfl), h _ 8 b (show (0 : Nat) ≠ 1 by decide) (.inr (.inl rfl)), h _ 16 k (show (0 : Nat) ≠ 1 by decide) (.inr (.inr rfl))]
  rfl
def begE (a b k : Nat) : Eg := cmdE (toldE a b k) 1
theorem wr24 (s : Eg) (size : Int) (hz : size = 4 ∨ size = 8) (v : Nat) : writeE s 24 size v = cmdE s v := by
  rcases hz with rfl | rfl
  all_goals simp [writeE, fitsE]
def rightE (a b k : Nat) : Bool := decide (0 < k ∧ k ≤ 4096 ∧ k % 8 = 0 ∧ a % 8 = 0 ∧ b % 8 = 0)
theorem badG_told (a b k : Nat) : badG (toldE a b k) = !rightE a b k := by
  unfold badG rightE
  show (decide (k = 0) || decide (4096 < k) || decide (a % 8 ≠ 0) || decide (b % 8 ≠ 0) || decide (k % 8 ≠ 0)) = _
  rw [Bool.eq_iff_iff]
  simp
  omega
theorem begE_eq (a b k : Nat) : begE a b k = { toldE a b k with st := if rightE a b k then 1 else 3, cp := 0 } := by
  unfold begE cmdE
  rw [if_neg (show ¬ (toldE a b k).st = 1 by show ¬ (0 : Nat) = 1; decide), if_pos rfl, badG_told]
  cases rightE a b k <;> rfl
theorem begE_st (a b k : Nat) : (begE a b k).st = if rightE a b k then 1 else 3 := by rw [begE_eq]
/-- behind j steps of an engine that was begun -/
structure RunE (a b k : Nat) (s : Eg) : Prop where
  r0 : s.rg 0 = a
  r8 : s.rg 8 = b
  r16 : s.rg 16 = k
  r40 : s.rg 40 = 0
def fitJ (base n a b j : Nat) : Bool := hasR base n (((a + 8 * j) % 18446744073709551616 : Nat) : Int) 8 && hasR base n (((b + 8 * j) % 18446744073709551616 : Nat) : Int) 8
theorem RunE.beg (a b k : Nat) : RunE a b k (begE a b k) := by rw [begE_eq]; exact ⟨rfl, rfl, rfl, rfl⟩
theorem goF_fit {a b k base n j : Nat} {s : Eg} (h : RunE a b k s) (hc : s.cp = 8 * j) : goF base n s = fitJ base n a b j := by
  unfold goF fitJ
  rw [h.r0, h.r8, hc]
/-- a run that goes on: all places are there -/
theorem run_go {a b k base n j : Nat} {s : Eg} (h : RunE a b k s) (hs : s.st = 1) (hc : s.cp = 8 * j) (hf : fitJ base n a b j = true) :
    stepS base n s = (if 8 * j + 8 < k then { s with cp := 8 * j + 8 } else { s with st := 2, cp := 8 * j + 8 }) ∧ stepR base n s = (0, 0, false) := by
  have hg := goF_fit (base := base) (n := n) h hc
  have h1 : stepS base n s = (if 8 * j + 8 < k then { s with cp := 8 * j + 8 } else { s with st := 2, cp := 8 * j + 8 }) := by
    unfold stepS
    rw [if_pos hs, hg, if_pos hf, h.r16, hc]
  refine ⟨h1, ?_⟩
  unfold stepR
  split
  · unfold msgE; rw [h.r40]; rfl
  · rfl
theorem run_mem {a b k base n j : Nat} {s : Eg} (m : Nat → Int) (h : RunE a b k s) (hs : s.st = 1) (hc : s.cp = 8 * j) (hf : fitJ base n a b j = true) :
    stepM base n s m = wrR base n m (((b + 8 * j) % 18446744073709551616 : Nat) : Int) 8 (rdR base n m (((a + 8 * j) % 18446744073709551616 : Nat) : Int) 8).1 := by
  unfold stepM
  rw [if_pos ⟨hs, (goF_fit (base := base) (n := n) h hc).trans hf⟩, h.r0, h.r8, hc]
end Go.Proofs.YtonhlgfgbdiapaaGreat

/- An engine over a plain memory, and the document's memory beside it: what each call does to both. -/
namespace Go.Proofs.YtonhlgfgbdiapaaGreat
set_option linter.unusedVariables false
set_option linter.unusedSimpArgs false
open Go.RowKit
set_option maxRecDepth 100000

section
theorem flat_m1 (p : Nat) (w : World) : (method 334 145 (.agg #[.pointer (some ⟨p, 0, none⟩)]) "citadel/engine.access").run Tryz.prog w = .ok (170, .agg #[.pointer (some ⟨p, 0, none⟩)]) w := by kernel_rfl
theorem flat_m2 (p : Nat) (w : World) : (method 334 145 (.agg #[.pointer (some ⟨p, 0, none⟩)]) "citadel/engine.message").run Tryz.prog w = .ok (171, .agg #[.pointer (some ⟨p, 0, none⟩)]) w := by kernel_rfl
theorem flat_c1 (args : Array Value) (w : World) : (callFunc 170 args).run Tryz.prog w = .ok (.enter 170 args) w := by kernel_rfl
theorem flat_c2 (args : Array Value) (w : World) : (callFunc 171 args).run Tryz.prog w = .ok (.enter 171 args) w := by kernel_rfl
variable {own own' : Nat → Nat} {c cm e mp base n : Nat} {w w' : World} {s : Eg} {m : Nat → Int}
theorem rdR_bd (base n : Nat) {m : Nat → Int} (hm : ∀ x, 0 ≤ m x ∧ m x < 256) (a : Int) : 0 ≤ (rdR base n m a 8).1 ∧ (rdR base n m a 8).1 < 18446744073709551616 := by
  unfold rdR
  split
  · have h3 := num_lt hm (8 : Int).toNat (a - base).toNat
    have h2 : (256 : Int) ^ (8 : Int).toNat = 18446744073709551616 := by decide
    rw [h2] at h3
    exact ⟨num_nonneg hm _ _, h3⟩
  · decide
theorem which_mod (s : Eg) (o1 o2 : Bool) : whichE s o1 o2 % 10 = 4 ↔ (s.st = 1 ∧ (o1 && o2) = true) := by
  unfold whichE atE
  by_cases hs : s.st = 1
  · by_cases hn : (nextE s o1 o2).st = 1
    · cases o1 <;> cases o2 <;> simp [hs, hn]
    · by_cases h4 : s.rg 40 = 0 <;> cases o1 <;> cases o2 <;> simp [hs, hn, h4]
  · simp [hs]
/-- a step of an engine over a plain memory -/
theorem eng_StepF (h : EngAt own c w e mp (wayF mp) s) (hok : EgOk s) (hM : MemAt ramK own cm w mp base n m) (hc : c ≠ cm) :
    Calls Tryz.prog 17 #[.pointer (some ⟨e, 0, none⟩)] w fun x w' => x = .returned (.tuple #[.agg #[.int .i64 (stepR base n s).1, .int .i64 (stepR base n s).2.1], .bool (stepR base n s).2.2]) ∧
      ∃ own', Step (fun x => x = c ∨ x = cm) own w own' w' ∧ EngAt own' c w' e mp (wayF mp) (stepS base n s) ∧ MemAt ramK own' cm w' mp base n (stepM base n s m) := by
  obtain ⟨a1, ha1⟩ : ∃ a, (s.rg 0 + s.cp) % 18446744073709551616 = a := ⟨_, rfl⟩
  obtain ⟨a2, ha2⟩ : ∃ a, (s.rg 8 + s.cp) % 18446744073709551616 = a := ⟨_, rfl⟩
  have b1 : a1 < 18446744073709551616 := by omega
  have b2 : a2 < 18446744073709551616 := by omega
  obtain ⟨v0, v1⟩ := rdR_bd base n hM.bd (a1 : Int)
  obtain ⟨v, hv⟩ := Int.eq_ofNat_of_zero_le v0
  have hG : goF base n s = (hasR base n (a1 : Int) 8 && hasR base n (a2 : Int) 8) := by unfold goF; rw [ha1, ha2]
  have key := eng_StepG (c := c) (V := fun i own w => MemAt ramK own cm w mp base n (if i % 10 = 4 then wrR base n m (a2 : Int) 8 (v : Int) else m)) (C := (· = cm)) (o1 := hasR base n (a1 : Int) 8) (o2 := hasR base n (a2 : Int) 8) (f1 := a1) (f2 := a2) (v := v) (R := fun _ => msgF (s.rg 40) (s.rg 48)) (ac := 170) (ms := 171) h hok
    (fun hs => {
      m1 := flat_m1 mp, m2 := flat_m2 mp, c1 := flat_c1, c2 := flat_c2, hC := hc
      hV := fun i own w own' w' hm hS => hm.step hS (fun e => hc e.symm)
      b1 := b1, b2 := b2, bv := by omega
      A1 := fun own w hm => by
        rw [ha1]
        refine (flat_access hm cm a1 b1 false).mono ?_
        rintro x w' ⟨rfl, hS⟩
        exact ⟨rfl, _, hS.mono (fun _ h => h.elim), hm.step hS (fun h => h)⟩
      A2 := fun _ own w hm => by
        rw [ha2]
        refine (flat_access hm cm a2 b2 true).mono ?_
        rintro x w' ⟨rfl, hS⟩
        exact ⟨rfl, _, hS.mono (fun _ h => h.elim), hm.step hS (fun h => h)⟩
      rd := fun o1 o2 own w hm => by
        refine (ram_Read hm (a1 : Int) 8 (by omega) (by omega) (by decide) (by decide)).mono ?_
        rintro x w' ⟨rfl, k, rfl⟩
        exact ⟨_, by rw [← hv]; rfl, _, (Step.refl _ _ _).drewN k, hm.drewN k⟩
      wr := fun o1 o2 own w hm => by
        refine (ram_Write hm (a2 : Int) 8 (v : Int) (by omega) (by omega) (by decide) (by decide) (by omega) (by omega)).mono ?_
        rintro x w' ⟨rfl, own', hS, hm'⟩
        exact ⟨_, rfl, own', hS, hm'⟩
      ms := fun i hi own w hm => by
        refine (flat_message own cm mp cm (s.rg 40) (s.rg 48) (hok.rg _) (hok.rg _) w).mono ?_
        rintro x w' ⟨rfl, own', hS⟩
        refine ⟨rfl, own', hS.mono (fun _ h => h.elim), ?_⟩
        have := hm.step hS (fun h => h)
        rwa [show (i + 10) % 10 = i % 10 by omega] }) (fun i own w own' w' hm hS => hm.step hS (fun e => hc e.symm)) hM
  refine key.mono ?_
  rintro x w' ⟨rfl, own', hS, hE, hm⟩
  have hnx : nextE s (hasR base n (a1 : Int) 8) (hasR base n (a2 : Int) 8) = stepS base n s := by unfold nextE stepS; rw [hG]
  have hre : resE s (hasR base n (a1 : Int) 8) (hasR base n (a2 : Int) 8) (fun _ => msgF (s.rg 40) (s.rg 48)) = stepR base n s := by
    unfold resE stepR msgE
    rw [hnx]
    by_cases hs : s.st = 1
    · by_cases hx : (stepS base n s).st = 1 <;> simp [hs, hx]
    · simp [hs]
  have hme : (if whichE s (hasR base n (a1 : Int) 8) (hasR base n (a2 : Int) 8) % 10 = 4 then wrR base n m (a2 : Int) 8 (v : Int) else m) = stepM base n s m := by
    unfold stepM
    rw [hG, ha1, ha2, hv]
    by_cases hx : s.st = 1 ∧ (hasR base n (a1 : Int) 8 && hasR base n (a2 : Int) 8) = true
    · rw [if_pos ((which_mod _ _ _).2 hx), if_pos hx]
    · rw [if_neg (fun h => hx ((which_mod _ _ _).1 h)), if_neg hx]
  rw [hre]
  rw [hnx] at hE
  rw [hme] at hm
  exact ⟨rfl, own', hS, hE, hm⟩
end
/-- the engine e over the memory p (colours 3, 1), the document's memory p2 (2); whatever was there (colour 0) is as it was -/
structure FE (w0 : World) (own : Nat → Nat) (w : World) (e p p2 bs n : Nat) (s : Eg) (m m2 : Nat → Int) : Prop where
  st : Step (· ≠ 0) (fun _ => 0) w0 own w
  mm : MemAt ramK own 1 w p bs n m
  mr : MemAt refK own 2 w p2 bs n m2
  eg : EngAt own 3 w e p (wayF p) s
  ok : EgOk s
section
variable {w0 w w' : World} {own own' : Nat → Nat} {e p p2 bs n : Nat} {s s' : Eg} {m m' m2 m2' : Nat → Int}
theorem FE.upd (h : FE w0 own w e p p2 bs n s m m2) : Upd (fun _ => False) w0 w := h.st.upd.mono (fun i _ hx => absurd rfl hx)
theorem FE.step {C : Nat → Prop} (h : FE w0 own w e p p2 bs n s m m2) (hS : Step C own w own' w') (h0 : ¬ C 0) (h1 : ¬ C 1) (h2 : ¬ C 2) (h3 : ¬ C 3) : FE w0 own' w' e p p2 bs n s m m2 :=
  ⟨h.st.trans (hS.mono (fun x hx e => h0 (e ▸ hx))), h.mm.step hS h1, h.mr.step hS h2, h.eg.step hS h3, h.ok⟩
theorem FE.none_ (h : FE w0 own w e p p2 bs n s m m2) (hS : Step (fun _ => False) own w own' w') : FE w0 own' w' e p p2 bs n s m m2 := h.step hS (fun x => x) (fun x => x) (fun x => x) (fun x => x)
theorem FE.busy (h : FE w0 own w e p p2 bs n s m m2) : Calls Tryz.prog 13 #[.pointer (some ⟨e, 0, none⟩)] w fun x w' => x = .returned (.bool (decide (s.st = 1))) ∧ w = w' := eng_Busy h.eg
theorem FE.write (h : FE w0 own w e p p2 bs n s m m2) (off : Nat) (hoff : off < 18446744073709551616) (size : Int) (hs0 : -9223372036854775808 ≤ size) (hs1 : size ≤ 9223372036854775807) (v : Nat) (hv : v < 18446744073709551616) :
    Calls Tryz.prog 11 #[.pointer (some ⟨e, 0, none⟩), .int .u64 (off : Int), .int .i64 size, .int .u64 (v : Int)] w fun x w' => x = .returned (.bool (fitsE off size)) ∧ ∃ own', Step (· = 3) own w own' w' ∧ FE w0 own' w' e p p2 bs n (writeE s off size v) m m2 := by
  refine (eng_Write h.eg h.ok off hoff size hs0 hs1 v hv).mono ?_
  rintro x w' ⟨rfl, hS, hE⟩
  exact ⟨rfl, own, hS, h.st.trans (hS.mono (fun x hx e => by rw [hx] at e; cases e)), h.mm.step hS (by decide), h.mr.step hS (by decide), hE, h.ok.write off size v hv⟩
theorem FE.read (h : FE w0 own w e p p2 bs n s m m2) (off : Nat) (hoff : off < 18446744073709551616) (size : Int) (hs0 : -9223372036854775808 ≤ size) (hs1 : size ≤ 9223372036854775807) :
    Calls Tryz.prog 12 #[.pointer (some ⟨e, 0, none⟩), .int .u64 (off : Int), .int .i64 size] w fun x w' => x = .returned (.tuple #[.int .u64 (readE s off size : Int), .bool (fitsE off size)]) ∧ ∃ own', Step (· = 3) own w own' w' ∧ FE w0 own' w' e p p2 bs n s m m2 := by
  refine (eng_Read h.eg h.ok off hoff size hs0 hs1).mono ?_
  rintro x w' ⟨rfl, own', hS, hE⟩
  exact ⟨rfl, own', hS, h.st.trans (hS.mono (fun x hx e => by rw [hx] at e; cases e)), h.mm.step hS (by decide), h.mr.step hS (by decide), hE, h.ok⟩
/-- with the numbers as the goal shows them -/
theorem FE.writeL (h : FE w0 own w e p p2 bs n s m m2) (off : Nat) (oI : Int) (hoI : oI = (off : Int)) (hoff : off < 18446744073709551616) (size : Int) (hs0 : -9223372036854775808 ≤ size) (hs1 : size ≤ 9223372036854775807) (v : Nat) (vI : Int) (hvI : vI = (v : Int)) (hv : v < 18446744073709551616) (fb : Bool) (hfb : fitsE off size = fb) :
    Calls Tryz.prog 11 #[.pointer (some ⟨e, 0, none⟩), .int .u64 oI, .int .i64 size, .int .u64 vI] w fun x w' => x = .returned (.bool fb) ∧ ∃ own', Step (· = 3) own w own' w' ∧ FE w0 own' w' e p p2 bs n (writeE s off size v) m m2 := by
  subst hoI hvI hfb; exact h.write off hoff size hs0 hs1 v hv
theorem FE.readL (h : FE w0 own w e p p2 bs n s m m2) (off : Nat) (oI : Int) (hoI : oI = (off : Int)) (hoff : off < 18446744073709551616) (size : Int) (hs0 : -9223372036854775808 ≤ size) (hs1 : size ≤ 9223372036854775807) (r : Nat) (rI : Int) (hr : readE s off size = r) (hrI : rI = (r : Int)) (fb : Bool) (hfb : fitsE off size = fb) :
    Calls Tryz.prog 12 #[.pointer (some ⟨e, 0, none⟩), .int .u64 oI, .int .i64 size] w fun x w' => x = .returned (.tuple #[.int .u64 rI, .bool fb]) ∧ ∃ own', Step (· = 3) own w own' w' ∧ FE w0 own' w' e p p2 bs n s m m2 := by
  subst hoI hrI hr hfb; exact h.read off hoff size hs0 hs1
theorem FE.stepE (h : FE w0 own w e p p2 bs n s m m2) :
    Calls Tryz.prog 17 #[.pointer (some ⟨e, 0, none⟩)] w fun x w' => x = .returned (.tuple #[.agg #[.int .i64 (stepR bs n s).1, .int .i64 (stepR bs n s).2.1], .bool (stepR bs n s).2.2]) ∧ ∃ own', Step (fun x => x = 1 ∨ x = 3) own w own' w' ∧ FE w0 own' w' e p p2 bs n (stepS bs n s) (stepM bs n s m) m2 := by
  refine (eng_StepF h.eg h.ok h.mm (by decide)).mono ?_
  rintro x w' ⟨rfl, own', hS, hE, hM⟩
  have hS := hS.mono (C' := fun x => x = 1 ∨ x = 3) (fun x hx => hx.elim .inr .inl)
  exact ⟨rfl, own', hS, h.st.trans (hS.mono (fun x hx e => by rw [e] at hx; rcases hx with h | h <;> cases h)), hM, h.mr.step hS (by decide), hE, h.ok.step bs n⟩
theorem FE.readR (h : FE w0 own w e p p2 bs n s m m2) (addr size : Int) (ha0 : 0 ≤ addr) (ha1 : addr < 18446744073709551616) (hs0 : -9223372036854775808 ≤ size) (hs1 : size ≤ 9223372036854775807) :
    Calls Tryz.prog 37 #[.pointer (some ⟨p, 0, none⟩), .int .u64 addr, .int .i64 size] w fun x w' => x = .returned (.tuple #[.int .u64 (rdR bs n m addr size).1, .bool (rdR bs n m addr size).2]) ∧ Step (fun _ => False) own w own w' := by
  refine (ram_Read h.mm addr size ha0 ha1 hs0 hs1).mono ?_
  rintro x w' ⟨rfl, k, rfl⟩
  exact ⟨rfl, (Step.refl _ _ _).drewN k⟩
end
end Go.Proofs.YtonhlgfgbdiapaaGreat

/- Both engines over plain memories (EngineFlat). -/
namespace Go.Proofs.YtonhlgfgbdiapaaGreat
set_option linter.unusedVariables false
set_option linter.unusedSimpArgs false
open Go.RowKit Go.Maps
set_option maxRecDepth 100000
section
variable {own own' : Nat → Nat} {c cm d q p2 bs n e mp : Nat} {dev : Int} {w w' : World} {s t t' : Eg} {m : Nat → Int} {way : Value}
/-- the program's engine is reset -/
theorem eng_Reset (h : EngAt own c w e mp way s) :
    Calls Tryz.prog 51 #[.pointer (some ⟨e, 0, none⟩)] w fun x w' => x = .returned (.tuple #[]) ∧ ∃ own', Step (· = c) own w own' w' ∧ EngAt own' c w' e mp way eg0 := by
  have hmm := @run_makeMap Tryz.prog
  obtain ⟨_, _, c3, c4, z3, z4, hlt⟩ := h.cells
  obtain ⟨rb, dn, rd, hb, ho, hr, hd⟩ := h
  have c2 : w.cell? ⟨e, 2, none⟩ = some (.map (some rb)) := hb.cell 2
  have z2 := hb.frozen 2
  have hne : e ≠ w.heap.size := Nat.ne_of_lt hlt
  have hb4 := ((hb.set_ 2 (.map (some w.heap.size))).set_ 3 (.int .u64 0)).set_ 4 (.int .u64 0)
  have hU := (((Upd.refl (· = e) w).setCell (p := ⟨e, 2, none⟩) (.inl rfl) (.map (some w.heap.size))).setCell (p := ⟨e, 3, none⟩) (.inl rfl) (.int .u64 0)).setCell (p := ⟨e, 4, none⟩) (.inl rfl) (.int .u64 0)
  have hS1 : Step (· = c) own w own _ := ⟨hU.mono (fun i _ hi => by rw [hi]; exact ho), fun _ _ => rfl⟩
  have hsz : (((w.setCell ⟨e, 2, none⟩ (.map (some w.heap.size))).setCell ⟨e, 3, none⟩ (.int .u64 0)).setCell ⟨e, 4, none⟩ (.int .u64 0)).heap.size = w.heap.size := by simp [World.setCell]
  obtain ⟨wm, hwm⟩ : ∃ wm, ((w.setCell ⟨e, 2, none⟩ (.map (some w.heap.size))).setCell ⟨e, 3, none⟩ (.int .u64 0)).setCell ⟨e, 4, none⟩ (.int .u64 0) = wm := ⟨_, rfl⟩
  rw [hwm] at hb4 hU hS1 hsz
  have hM := MapB.made wm Tryz.prog 23 encU
  rw [hsz] at hM
  have hS2 : Step (· = c) own wm (ext own wm c) (wm.alloc (.map #[] 0)) := ⟨(Upd.refl _ _).alloc _, fun b hb => ext_old _ _ _ hb⟩
  have hb5 := Blk.upd hb4 ((Upd.refl (fun _ => False) wm).alloc (.map #[] 0)) (fun h => h)
  have hE : EngAt (ext own wm c) c (wm.alloc (.map #[] 0)) e mp way eg0 := by
    refine ⟨w.heap.size, dn, rd, hb5, by rw [ext_old _ _ _ (by rw [hsz]; exact hlt)]; exact ho, ⟨ext_new _ _ _ (by rw [hsz]; exact Nat.le_refl _), [], hM, fun k => rfl⟩, ?_⟩
    rcases hd with h | ⟨h1, fb, h2, h3, hfo, hfm⟩
    · exact .inl h
    · refine .inr ⟨h1, fb, h2, Nat.ne_of_lt hfm.lt, ?_, ?_⟩
      · show ext own wm c fb = c
        rw [ext_old _ _ _ (by rw [hsz]; exact hfm.lt)]; exact hfo
      · exact (hfm.upd hU (hb.ne_map hfm)).upd ((Upd.refl (fun _ => False) wm).alloc _) (fun h => h)
  have HF := Lib.hid (And.intro (hS1.trans hS2) hE)
  rw [← hwm] at HF
  clear hS1 hM hb4 hb5 hU hS2 hE hr hd hb ho hsz hwm
  go_enter Tryz.func51, Tryz.ntmps51
  go_wp2
  go_end0
  exact ⟨rfl, _, HF.out⟩
end
end Go.Proofs.YtonhlgfgbdiapaaGreat

/- An engine behind an IOMMU, plain: what a step does to both. -/
namespace Go.Proofs.YtonhlgfgbdiapaaGreat
set_option linter.unusedVariables false
set_option linter.unusedSimpArgs false
open Go.RowKit
set_option maxRecDepth 100000
/-- the IOMMU's state, memory, what is remembered -/
structure Uv where
  s : Us
  m : Nat → Int
  l : List Tr
def accK (r : Nat) (dev : Int) (u : Uv) (a : Nat) (wr : Bool) : Nat × Nat × List Tr := accA 8 u.m u.s r u.l dev a 8 wr
def accU (r : Nat) (dev : Int) (u : Uv) (a : Nat) (wr : Bool) : Uv := ⟨accSt u.s dev (accK r dev u a wr).2.1, accMt u.s u.m dev (accK r dev u a wr).2.1 a, (accK r dev u a wr).2.2⟩
def msgU (ms : List To4) (dev : Int) (u : Uv) (a k : Nat) : Uv := ⟨msgS u.s ms dev a k, msgM u.s u.m ms dev a k, u.l⟩
def msgT (ms : List To4) (dev : Int) (a k : Nat) : Int × Int × Bool := ((msgV ms dev a k).1, (msgV ms dev a k).2, msgOk ms dev a k)
theorem accMt_bd {s : Us} {m : Nat → Int} (hm : ∀ x, 0 ≤ m x ∧ m x < 256) (dev : Int) (k a : Nat) : ∀ x, 0 ≤ accMt s m dev k a x ∧ accMt s m dev k a x < 256 := by
  unfold accMt
  split
  · exact hm
  · exact recM_bd hm _ _ _
theorem accA_lt {m : Nat → Int} {s : Us} {room : Nat} {l : List Tr} {dev : Int} {a : Nat} {sz : Int} {wr : Bool} : (accA 8 m s room l dev a sz wr).1 ≤ 32768 := by
  have hh : ∀ x : Nat, ∀ z : Int, hasR 0 8 (x : Int) z = true → x ≤ 32768 := fun x z h => by
    have := hasR_iff.1 h
    omega
  unfold accA
  split
  · show 0 ≤ 32768; decide
  · split
    · show 0 ≤ 32768; decide
    · unfold accL
      split
      · split
        · split
          · rename_i h; exact hh _ _ h
          · show 0 ≤ 32768; decide
        · split
          · show 0 ≤ 32768; decide
          · split
            · rename_i h; exact hh _ _ h
            · show 0 ≤ 32768; decide
      · split
        · show 0 ≤ 32768; decide
        · split
          · rename_i h; exact hh _ _ h
          · show 0 ≤ 32768; decide
theorem accA_ents {n : Nat} {m : Nat → Int} {s : Us} {room : Nat} {l : List Tr} {dev : Int} {a : Nat} {sz : Int} {wr : Bool} (h : EntsOk l) : EntsOk (accA n m s room l dev a sz wr).2.2 := by
  unfold accA
  split
  · exact h
  · split
    · exact h
    · rename_i hr
      have hb := @guest_bd n m (rootP s dev) a (accW wr) hr
      unfold accL
      split
      · split
        · split <;> exact h
        · split
          · exact h
          · split
            · exact h.put (by simp only []; omega) room
            · exact h.put (by simp only []; omega) room
      · split
        · exact h
        · split
          · exact h.put (by simp only []; omega) room
          · exact h.put (by simp only []; omega) room
section
variable (r : Nat) (dev : Int) (ms : List To4) (u : Uv) (s t : Eg)
def plA (s : Eg) : Nat := (s.rg 0 + s.cp) % 18446744073709551616
def plB (s : Eg) : Nat := (s.rg 8 + s.cp) % 18446744073709551616
def oA : Bool := (accK r dev u (plA s) false).2.1 == 0
def fA : Nat := (accK r dev u (plA s) false).1
def u1 : Uv := accU r dev u (plA s) false
def oB : Bool := (accK r dev (u1 r dev u s) (plB s) true).2.1 == 0
def fB : Nat := (accK r dev (u1 r dev u s) (plB s) true).1
def u2 : Uv := accU r dev (u1 r dev u s) (plB s) true
def vX : Nat := (rdR 0 8 (u2 r dev u s).m (fA r dev u s : Int) 8).1.toNat
def u4 : Uv := { u2 r dev u s with m := wrR 0 8 (u2 r dev u s).m (fB r dev u s : Int) 8 (vX r dev u s : Int) }
/-- the stages of a step -/
def uAt (i : Nat) : Uv := if i = 0 then u else if i = 1 then u1 r dev u s else if i = 2 ∨ i = 3 then u2 r dev u s else u4 r dev u s
def uSt (i : Nat) : Uv := if i < 10 then uAt r dev u s i else msgU ms dev (uAt r dev u s (i - 10)) (s.rg 40) (s.rg 48)
def stepX : Eg := nextE s (oA r dev u s) (oB r dev u s)
def stepU : Uv := uSt r dev ms u s (whichE s (oA r dev u s) (oB r dev u s))
def stepT : Int × Int × Bool := resE s (oA r dev u s) (oB r dev u s) (fun _ => msgT ms dev (s.rg 40) (s.rg 48))
end
theorem SimE.stepX {s t : Eg} (h : SimE s t) (r : Nat) (dev : Int) (ms : List To4) (u : Uv) : SimE (stepX r dev u s) (stepX r dev u t) ∧ stepU r dev ms u s = stepU r dev ms u t ∧ stepT r dev ms u s = stepT r dev ms u t := by
  by_cases hs : s.st = 1
  · have hc := h.cp hs
    have ha : plA s = plA t := by unfold plA; rw [h.rg, hc]
    have hb : plB s = plB t := by unfold plB; rw [h.rg, hc]
    have h1 : u1 r dev u s = u1 r dev u t := by unfold u1; rw [ha]
    have h2 : u2 r dev u s = u2 r dev u t := by unfold u2; rw [h1, hb]
    have h3 : oA r dev u s = oA r dev u t := by unfold oA; rw [ha]
    have h4 : oB r dev u s = oB r dev u t := by unfold oB; rw [h1, hb]
    have h5 : fA r dev u s = fA r dev u t := by unfold fA; rw [ha]
    have h6 : fB r dev u s = fB r dev u t := by unfold fB; rw [h1, hb]
    have h7 : vX r dev u s = vX r dev u t := by unfold vX; rw [h2, h5]
    have h8 : u4 r dev u s = u4 r dev u t := by unfold u4; rw [h2, h6, h7]
    have h9 : ∀ i, uSt r dev ms u s i = uSt r dev ms u t i := fun i => by unfold uSt uAt; rw [h1, h2, h8, h.rg]
    unfold Go.Proofs.YtonhlgfgbdiapaaGreat.stepX stepU stepT
    rw [h3, h4, h.which, h.res, h.rg]
    exact ⟨h.next _ _, h9 _, rfl⟩
  · have ht : ¬ t.st = 1 := by rw [← h.st]; exact hs
    have e1 : ∀ (x : Eg), ¬ x.st = 1 → Go.Proofs.YtonhlgfgbdiapaaGreat.stepX r dev u x = x ∧ stepU r dev ms u x = u ∧ stepT r dev ms u x = (0, 0, false) := fun x hx => by
      unfold Go.Proofs.YtonhlgfgbdiapaaGreat.stepX stepU stepT
      rw [show whichE x (oA r dev u x) (oB r dev u x) = 0 from if_neg hx]
      exact ⟨if_neg hx, rfl, if_neg hx⟩
    obtain ⟨a1, a2, a3⟩ := e1 s hs
    obtain ⟨b1, b2, b3⟩ := e1 t ht
    rw [a1, a2, a3, b1, b2, b3]
    exact ⟨h, rfl, rfl⟩
theorem EgOk.next {s : Eg} (h : EgOk s) (o1 o2 : Bool) : EgOk (nextE s o1 o2) := by
  unfold nextE
  split
  · rename_i hs
    obtain ⟨h1, h2, h3, h4, h5, h6⟩ := h.run hs
    split
    · split
      · rename_i hl
        exact ⟨h.rg, h.st, by show s.cp + 8 < _; omega, fun _ => ⟨by show (s.cp + 8) % 8 = 0; omega, hl, h3, h4, h5, h6⟩⟩
      · exact ⟨h.rg, by simp, by show s.cp + 8 < _; omega, fun h => by simp at h⟩
    · exact ⟨h.rg, by simp, h.cp, fun h => by simp at h⟩
  · exact h
/-- the IOMMU's state is kept right -/
def PU (u : Uv) (ms : List To4) : Prop := PI u.s u.l ms
theorem PU.acc {u : Uv} {ms : List To4} (h : PU u ms) (r : Nat) (dev : Int) (a : Nat) (wr : Bool) : PU (accU r dev u a wr) ms :=
  (show PI u.s (accK r dev u a wr).2.2 ms from ⟨h.ok, accA_ents h.el, accA_uniq h.uq dev a 8 wr, h.rel⟩).accSt dev _
theorem PU.msg {u : Uv} {ms : List To4} (h : PU u ms) (dev : Int) (a k : Nat) : PU (msgU ms dev u a k) ms := PI.msgS h dev a k
theorem PU.at_ {u : Uv} {ms : List To4} (h : PU u ms) (r : Nat) (dev : Int) (s : Eg) (i : Nat) : PU (uAt r dev u s i) ms := by
  have h1 : PU (u1 r dev u s) ms := h.acc r dev _ _
  have h2 : PU (u2 r dev u s) ms := h1.acc r dev _ _
  unfold uAt
  split
  · exact h
  · split
    · exact h1
    · split
      · exact h2
      · exact h2
theorem PU.st {u : Uv} {ms : List To4} (h : PU u ms) (r : Nat) (dev : Int) (s : Eg) (i : Nat) : PU (uSt r dev ms u s i) ms := by
  unfold uSt
  split
  · exact h.at_ r dev s i
  · exact (h.at_ r dev s _).msg dev _ _
end Go.Proofs.YtonhlgfgbdiapaaGreat

/- citadellaw07.On.Do, kind by kind (printed by gdo.py). -/
namespace Go.Proofs.YtonhlgfgbdiapaaGreat
set_option linter.unusedVariables false
set_option linter.unusedSimpArgs false
open Go.RowKit
set_option maxRecDepth 100000

section
variable {own : Nat → Nat} {w : World} {p q rp tp p2 t2 r : Nat} {s : Us} {m : Nat → Int} {l : List Tr} {ms : List To4} {xk xd xs xg xq : Int} {xa xv : Nat} {xw : Bool}
set_option maxHeartbeats 2000000 in
theorem do_0 (hA : PA own w p rp tp r s m l) (hD : PD own w q p2 t2 r s m l ms) (hI : PI s l ms) (hms : ms.length < 4398046511103) (hbk : i64B xk) (hbs : i64B xs) (hba : xa < 18446744073709551616) (hbv : xv < 18446744073709551616) (hk : xk % 11 = 0) :
    Calls Tryz.prog 53 #[.agg #[.pointer (some ⟨p, 0, none⟩), .pointer (some ⟨q, 0, none⟩), .pointer (some ⟨rp, 0, none⟩), .pointer (some ⟨p2, 0, none⟩)], .agg #[.int .i64 xk, .int .i64 xd, .int .i64 xs, .int .u64 (xa : Int), .int .u64 (xv : Int), .bool xw, .int .i64 xg, .int .i64 xq]] w fun e w' => e = .returned (.bool true) ∧ ∃ own' s' m' l' ms', Step (fun x => x ≠ 0 ∧ x < 50) own w own' w' ∧ PA own' w' p rp tp r s' m' l' ∧ PD own' w' q p2 t2 r s' m' l' ms' ∧ PI s' l' ms' ∧ ms'.length ≤ ms.length + 1 := by
  have P1 := fun w => place_calls xk 11 w hbk.1 hbk.2 (by decide) (by decide)
  rw [hk] at P1
  have HP := Lib.hid P1
  have hS1 : Step (fun _ => False) own w (ext own w 50) (w.alloc (.cells #[.pointer (some ⟨p, 0, none⟩), .pointer (some ⟨q, 0, none⟩), .pointer (some ⟨rp, 0, none⟩), .pointer (some ⟨p2, 0, none⟩)] 36)) := ⟨(Upd.refl _ _).alloc _, fun b hb => ext_old _ _ _ hb⟩
  have hS2 : Step (fun _ => False) (ext own w 50) (w.alloc (.cells #[.pointer (some ⟨p, 0, none⟩), .pointer (some ⟨q, 0, none⟩), .pointer (some ⟨rp, 0, none⟩), .pointer (some ⟨p2, 0, none⟩)] 36)) (ext (ext own w 50) (w.alloc (.cells #[.pointer (some ⟨p, 0, none⟩), .pointer (some ⟨q, 0, none⟩), .pointer (some ⟨rp, 0, none⟩), .pointer (some ⟨p2, 0, none⟩)] 36)) 50) ((w.alloc (.cells #[.pointer (some ⟨p, 0, none⟩), .pointer (some ⟨q, 0, none⟩), .pointer (some ⟨rp, 0, none⟩), .pointer (some ⟨p2, 0, none⟩)] 36)).alloc (.cells #[.int .i64 xk, .int .i64 xd, .int .i64 xs, .int .u64 (xa : Int), .int .u64 (xv : Int), .bool xw, .int .i64 xg, .int .i64 xq] 49)) := ⟨(Upd.refl _ _).alloc _, fun b hb => ext_old _ _ _ hb⟩
  have hX : DX (ext (ext own w 50) (w.alloc (.cells #[.pointer (some ⟨p, 0, none⟩), .pointer (some ⟨q, 0, none⟩), .pointer (some ⟨rp, 0, none⟩), .pointer (some ⟨p2, 0, none⟩)] 36)) 50) ((w.alloc (.cells #[.pointer (some ⟨p, 0, none⟩), .pointer (some ⟨q, 0, none⟩), .pointer (some ⟨rp, 0, none⟩), .pointer (some ⟨p2, 0, none⟩)] 36)).alloc (.cells #[.int .i64 xk, .int .i64 xd, .int .i64 xs, .int .u64 (xa : Int), .int .u64 (xv : Int), .bool xw, .int .i64 xg, .int .i64 xq] 49)) w.heap.size (w.heap.size + 1) p q rp p2 xk xd xs xa xv xw xg xq := by
    obtain ⟨g1, g2⟩ := hS2.blk (Blk.new w _ _) (ext_new own w 50 (Nat.le_refl _)) (fun h => h)
    have g3 := Blk.new (w.alloc (.cells #[.pointer (some ⟨p, 0, none⟩), .pointer (some ⟨q, 0, none⟩), .pointer (some ⟨rp, 0, none⟩), .pointer (some ⟨p2, 0, none⟩)] 36)) 49 #[.int .i64 xk, .int .i64 xd, .int .i64 xs, .int .u64 (xa : Int), .int .u64 (xv : Int), .bool xw, .int .i64 xg, .int .i64 xq]
    have g4 : ext (ext own w 50) (w.alloc (.cells #[.pointer (some ⟨p, 0, none⟩), .pointer (some ⟨q, 0, none⟩), .pointer (some ⟨rp, 0, none⟩), .pointer (some ⟨p2, 0, none⟩)] 36)) 50 (w.alloc (.cells #[.pointer (some ⟨p, 0, none⟩), .pointer (some ⟨q, 0, none⟩), .pointer (some ⟨rp, 0, none⟩), .pointer (some ⟨p2, 0, none⟩)] 36)).heap.size = 50 := ext_new _ _ _ (Nat.le_refl _)
    rw [World.size_alloc] at g3 g4
    exact ⟨g1, g2, g3, g4⟩
  have hS := hS1.trans hS2
  have hA1 := hA.step hS (fun x h => h.elim)
  have hD1 := hD.step hS (fun x h => h.elim)
  obtain ⟨b0, b1, x1, x2, x3, x4, x5, x6, x7, lb, lx⟩ := hX.cells
  have H0 := Lib.hid (And.intro (hS.mono (C' := fun x => x ≠ 0 ∧ x < 50) (fun x h => h.elim)) (And.intro hA1 (And.intro hD1 (And.intro hX hI))))
  clear P1 hS1 hS2 hX hS hA1 hD1 hA hD hk hI
  go_enter Tryz.func53, Tryz.ntmps53
  go_wp2_with fail
  ((with_reducible refine (HP.out _).mono ?_); rintro e wz ⟨rfl, rfl⟩)
  clear HP
  generalize (ext (ext own w 50) (w.alloc (.cells #[.pointer (some ⟨p, 0, none⟩), .pointer (some ⟨q, 0, none⟩), .pointer (some ⟨rp, 0, none⟩), .pointer (some ⟨p2, 0, none⟩)] 36)) 50) = own1 at *
  generalize ((w.alloc (.cells #[.pointer (some ⟨p, 0, none⟩), .pointer (some ⟨q, 0, none⟩), .pointer (some ⟨rp, 0, none⟩), .pointer (some ⟨p2, 0, none⟩)] 36)).alloc (.cells #[.int .i64 xk, .int .i64 xd, .int .i64 xs, .int .u64 (xa : Int), .int .u64 (xv : Int), .bool xw, .int .i64 xg, .int .i64 xq] 49)) = w1 at *
  generalize hob : w.heap.size = ob at *
  generalize hxb : ob + 1 = xb at *
  have hAc := io_Access H0.out.2.1.u H0.out.2.1.mm H0.out.2.1.t (by decide) (by decide) H0.out.2.2.2.2.ok H0.out.2.2.2.2.el xd xa hba xs hbs.1 hbs.2 xw
  obtain ⟨⟨RA, KD, L⟩, hR⟩ : ∃ R, accA 8 m s r l xd xa xs xw = R := ⟨_, rfl⟩
  have huq := accA_uniq (n := 8) (m := m) (s := s) (room := r) H0.out.2.2.2.2.uq xd xa xs xw
  rw [hR] at hAc huq
  simp only [] at hAc huq
  have HAc := Lib.hid hAc
  have HR := Lib.hid (And.intro hR huq)
  clear hAc hR huq
  go_wp2_with fail
  ((with_reducible refine HAc.out.mono ?_); rintro e w2 ⟨rfl, own2, hS2, hU2, hM2, hT2, hl2⟩)
  have hD2 := H0.out.2.2.1.step hS2 (by omega)
  have hX2 := H0.out.2.2.2.1.step hS2 (by omega)
  have hDc := uref_Access hD2.ur hD2.mr hD2.tr (by decide) (by decide) (by decide) H0.out.2.2.2.2.ok H0.out.2.2.2.2.el xd xa hba xs hbs.1 hbs.2 xw
  rw [HR.out.1] at hDc
  simp only [] at hDc
  have HDc := Lib.hid hDc
  have H2 := Lib.hid (And.intro (H0.out.1.trans (hS2.mono (fun x h => by omega))) (And.intro (show PA own2 w2 p rp tp r (accSt s xd KD) (accMt s m xd KD xa) L from ⟨hU2, hM2, hT2⟩) (And.intro hX2 hl2)))
  obtain ⟨b0, b1, x1, x2, x3, x4, x5, x6, x7, lb, lx⟩ := hX2.cells
  clear hS2 hU2 hM2 hT2 hl2 hD2 hX2 hDc HAc
  go_wp2_with fail
  ((with_reducible refine HDc.out.mono ?_); rintro e w3 ⟨rfl, own3, hS3, hU3, hM3, hT3⟩)
  have H3 := Lib.hid (show ∃ own' s' m' l' ms', Step (fun x => x ≠ 0 ∧ x < 50) own w own' w3 ∧ PA own' w3 p rp tp r s' m' l' ∧ PD own' w3 q p2 t2 r s' m' l' ms' ∧ PI s' l' ms' ∧ ms'.length ≤ ms.length + 1 from
    ⟨own3, _, _, _, ms, H2.out.1.trans (hS3.mono (fun x h => by omega)), H2.out.2.1.step hS3 (by omega), ⟨hM3, hU3, hT3⟩, (show PI s L ms from ⟨H0.out.2.2.2.2.ok, H2.out.2.2.2, HR.out.2, H0.out.2.2.2.2.rel⟩).accSt xd KD, by omega⟩)
  obtain ⟨bb, hbb⟩ : ∃ bb, (KD == 0) = bb := ⟨_, rfl⟩
  clear hS3 hU3 hM3 hT3 H2 H0 HR HDc
  cases bb
  · go_wp2
    go_ret
    exact ⟨rfl, H3.out⟩
  · go_wp2
    go_ret
    exact ⟨rfl, H3.out⟩
set_option maxHeartbeats 2000000 in
theorem do_1 (hA : PA own w p rp tp r s m l) (hD : PD own w q p2 t2 r s m l ms) (hI : PI s l ms) (hms : ms.length < 4398046511103) (hbk : i64B xk) (hbs : i64B xs) (hba : xa < 18446744073709551616) (hbv : xv < 18446744073709551616) (hk : xk % 11 = 1) :
    Calls Tryz.prog 53 #[.agg #[.pointer (some ⟨p, 0, none⟩), .pointer (some ⟨q, 0, none⟩), .pointer (some ⟨rp, 0, none⟩), .pointer (some ⟨p2, 0, none⟩)], .agg #[.int .i64 xk, .int .i64 xd, .int .i64 xs, .int .u64 (xa : Int), .int .u64 (xv : Int), .bool xw, .int .i64 xg, .int .i64 xq]] w fun e w' => e = .returned (.bool true) ∧ ∃ own' s' m' l' ms', Step (fun x => x ≠ 0 ∧ x < 50) own w own' w' ∧ PA own' w' p rp tp r s' m' l' ∧ PD own' w' q p2 t2 r s' m' l' ms' ∧ PI s' l' ms' ∧ ms'.length ≤ ms.length + 1 := by
  have P1 := fun w => place_calls xk 11 w hbk.1 hbk.2 (by decide) (by decide)
  rw [hk] at P1
  have HP := Lib.hid P1
  have hS1 : Step (fun _ => False) own w (ext own w 50) (w.alloc (.cells #[.pointer (some ⟨p, 0, none⟩), .pointer (some ⟨q, 0, none⟩), .pointer (some ⟨rp, 0, none⟩), .pointer (some ⟨p2, 0, none⟩)] 36)) := ⟨(Upd.refl _ _).alloc _, fun b hb => ext_old _ _ _ hb⟩
  have hS2 : Step (fun _ => False) (ext own w 50) (w.alloc (.cells #[.pointer (some ⟨p, 0, none⟩), .pointer (some ⟨q, 0, none⟩), .pointer (some ⟨rp, 0, none⟩), .pointer (some ⟨p2, 0, none⟩)] 36)) (ext (ext own w 50) (w.alloc (.cells #[.pointer (some ⟨p, 0, none⟩), .pointer (some ⟨q, 0, none⟩), .pointer (some ⟨rp, 0, none⟩), .pointer (some ⟨p2, 0, none⟩)] 36)) 50) ((w.alloc (.cells #[.pointer (some ⟨p, 0, none⟩), .pointer (some ⟨q, 0, none⟩), .pointer (some ⟨rp, 0, none⟩), .pointer (some ⟨p2, 0, none⟩)] 36)).alloc (.cells #[.int .i64 xk, .int .i64 xd, .int .i64 xs, .int .u64 (xa : Int), .int .u64 (xv : Int), .bool xw, .int .i64 xg, .int .i64 xq] 49)) := ⟨(Upd.refl _ _).alloc _, fun b hb => ext_old _ _ _ hb⟩
  have hX : DX (ext (ext own w 50) (w.alloc (.cells #[.pointer (some ⟨p, 0, none⟩), .pointer (some ⟨q, 0, none⟩), .pointer (some ⟨rp, 0, none⟩), .pointer (some ⟨p2, 0, none⟩)] 36)) 50) ((w.alloc (.cells #[.pointer (some ⟨p, 0, none⟩), .pointer (some ⟨q, 0, none⟩), .pointer (some ⟨rp, 0, none⟩), .pointer (some ⟨p2, 0, none⟩)] 36)).alloc (.cells #[.int .i64 xk, .int .i64 xd, .int .i64 xs, .int .u64 (xa : Int), .int .u64 (xv : Int), .bool xw, .int .i64 xg, .int .i64 xq] 49)) w.heap.size (w.heap.size + 1) p q rp p2 xk xd xs xa xv xw xg xq := by
    obtain ⟨g1, g2⟩ := hS2.blk (Blk.new w _ _) (ext_new own w 50 (Nat.le_refl _)) (fun h => h)
    have g3 := Blk.new (w.alloc (.cells #[.pointer (some ⟨p, 0, none⟩), .pointer (some ⟨q, 0, none⟩), .pointer (some ⟨rp, 0, none⟩), .pointer (some ⟨p2, 0, none⟩)] 36)) 49 #[.int .i64 xk, .int .i64 xd, .int .i64 xs, .int .u64 (xa : Int), .int .u64 (xv : Int), .bool xw, .int .i64 xg, .int .i64 xq]
    have g4 : ext (ext own w 50) (w.alloc (.cells #[.pointer (some ⟨p, 0, none⟩), .pointer (some ⟨q, 0, none⟩), .pointer (some ⟨rp, 0, none⟩), .pointer (some ⟨p2, 0, none⟩)] 36)) 50 (w.alloc (.cells #[.pointer (some ⟨p, 0, none⟩), .pointer (some ⟨q, 0, none⟩), .pointer (some ⟨rp, 0, none⟩), .pointer (some ⟨p2, 0, none⟩)] 36)).heap.size = 50 := ext_new _ _ _ (Nat.le_refl _)
    rw [World.size_alloc] at g3 g4
    exact ⟨g1, g2, g3, g4⟩
  have hS := hS1.trans hS2
  have hA1 := hA.step hS (fun x h => h.elim)
  have hD1 := hD.step hS (fun x h => h.elim)
  obtain ⟨b0, b1, x1, x2, x3, x4, x5, x6, x7, lb, lx⟩ := hX.cells
  have H0 := Lib.hid (And.intro (hS.mono (C' := fun x => x ≠ 0 ∧ x < 50) (fun x h => h.elim)) (And.intro hA1 (And.intro hD1 (And.intro hX hI))))
  clear P1 hS1 hS2 hX hS hA1 hD1 hA hD hk hI
  go_enter Tryz.func53, Tryz.ntmps53
  go_wp2_with fail
  ((with_reducible refine (HP.out _).mono ?_); rintro e wz ⟨rfl, rfl⟩)
  clear HP
  generalize (ext (ext own w 50) (w.alloc (.cells #[.pointer (some ⟨p, 0, none⟩), .pointer (some ⟨q, 0, none⟩), .pointer (some ⟨rp, 0, none⟩), .pointer (some ⟨p2, 0, none⟩)] 36)) 50) = own1 at *
  generalize ((w.alloc (.cells #[.pointer (some ⟨p, 0, none⟩), .pointer (some ⟨q, 0, none⟩), .pointer (some ⟨rp, 0, none⟩), .pointer (some ⟨p2, 0, none⟩)] 36)).alloc (.cells #[.int .i64 xk, .int .i64 xd, .int .i64 xs, .int .u64 (xa : Int), .int .u64 (xv : Int), .bool xw, .int .i64 xg, .int .i64 xq] 49)) = w1 at *
  generalize hob : w.heap.size = ob at *
  generalize hxb : ob + 1 = xb at *
  have hAc := io_MsgX H0.out.2.1.u H0.out.2.1.mm (by decide) H0.out.2.2.2.2.ok H0.out.2.2.2.2.rel xd xa xv hba
  obtain ⟨⟨V1, V2⟩, hV⟩ : ∃ V, msgV ms xd xa (xv : Int) = V := ⟨_, rfl⟩
  obtain ⟨G, hG⟩ : ∃ G, msgOk ms xd xa (xv : Int) = G := ⟨_, rfl⟩
  rw [hV, hG] at hAc
  simp only [] at hAc
  have HAc := Lib.hid hAc
  have HR := Lib.hid (And.intro hV hG)
  clear hAc hV hG
  go_wp2_with fail
  ((with_reducible refine HAc.out.mono ?_); rintro e w2 ⟨rfl, own2, hS2, hU2, hM2⟩)
  have hst : Step (fun _ => False) own2 w2 (ext own2 w2 50) (w2.alloc (.cells #[.int .i64 V1, .int .i64 V2] 47)) := ⟨(Upd.refl _ _).alloc _, fun b hb => ext_old _ _ _ hb⟩
  have hT2 := (H0.out.2.1.t.step hS2 (by omega) (by omega))
  have hP2 : PA (ext own2 w2 50) (w2.alloc (.cells #[.int .i64 V1, .int .i64 V2] 47)) p rp tp r (msgS s ms xd xa xv) (msgM s m ms xd xa xv) l := (show PA own2 w2 p rp tp r (msgS s ms xd xa xv) (msgM s m ms xd xa xv) l from ⟨hU2, hM2, hT2⟩).step hst (fun x h => h.elim)
  have hD2 := (H0.out.2.2.1.step hS2 (by omega)).step hst (fun x h => h.elim)
  have hX2 := (H0.out.2.2.2.1.step hS2 (by omega)).step hst (fun h => h)
  have hy := Blk.new w2 47 #[.int .i64 V1, .int .i64 V2]
  have hyo : ext own2 w2 50 w2.heap.size = 50 := ext_new _ _ _ (Nat.le_refl _)
  have hDc := uref_Message hD2.ur hD2.mr (by decide) (by decide) H0.out.2.2.2.2.ok (by omega) xd xa xv hba
  rw [HR.out.1, HR.out.2] at hDc
  simp only [] at hDc
  have HDc := Lib.hid hDc
  have H2 := Lib.hid (And.intro ((H0.out.1.trans (hS2.mono (fun x h => by omega))).trans (hst.mono (fun x h => h.elim))) (And.intro hP2 (And.intro hD2.tr (And.intro hy hyo))))
  obtain ⟨b0, b1, x1, x2, x3, x4, x5, x6, x7, lb, lx⟩ := hX2.cells
  clear hS2 hU2 hM2 hT2 hst hP2 hD2 hX2 hDc HAc hy hyo
  go_wp2_with fail
  generalize w2.heap.size = yb at *
  generalize (w2.alloc (.cells #[.int .i64 V1, .int .i64 V2] 47)) = w3 at *
  generalize ext own2 w2 50 = own3 at *
  ((with_reducible refine HDc.out.mono ?_); rintro e w4 ⟨rfl, own4, hS4, hU4, hM4⟩)
  obtain ⟨k1, k2⟩ := hS4.blk H2.out.2.2.2.1 H2.out.2.2.2.2 (by omega)
  have y0 := k1.cell 0
  have y1 := k1.cell 1
  simp only [List.getElem?_toArray, List.getElem?_cons_zero, List.getElem?_cons_succ] at y0 y1
  have ly := k1.lt
  have hst := step_allocS own4 w4 (.cells #[.int .i64 V1, .int .i64 V2] 47)
  have H3 := Lib.hid (show ∃ own' s' m' l' ms', Step (fun x => x ≠ 0 ∧ x < 50) own w own' (w4.alloc (.cells #[.int .i64 V1, .int .i64 V2] 47)) ∧ PA own' (w4.alloc (.cells #[.int .i64 V1, .int .i64 V2] 47)) p rp tp r s' m' l' ∧ PD own' (w4.alloc (.cells #[.int .i64 V1, .int .i64 V2] 47)) q p2 t2 r s' m' l' ms' ∧ PI s' l' ms' ∧ ms'.length ≤ ms.length + 1 from
    ⟨own4, _, _, _, ms, (H2.out.1.trans (hS4.mono (fun x h => by omega))).trans (hst.mono (fun x h => h.elim)), (H2.out.2.1.step hS4 (by omega)).step hst (fun x h => h.elim), (show PD own4 w4 q p2 t2 r _ _ l ms from ⟨hM4, hU4, H2.out.2.2.1.step hS4 (by omega) (by omega)⟩).step hst (fun x h => h.elim), H0.out.2.2.2.2.msgS xd xa xv, by omega⟩)
  clear hS4 hU4 hM4 H2 H0 HR HDc k1 k2 hst
  cases G
  · go_wp2
    go_ret
    exact ⟨rfl, H3.out⟩
  · go_wp2
    go_ret
    exact ⟨rfl, H3.out⟩
end
end Go.Proofs.YtonhlgfgbdiapaaGreat

/- citadellaw07.On.Do, kind by kind (printed by gdo.py). -/
namespace Go.Proofs.YtonhlgfgbdiapaaGreat
set_option linter.unusedVariables false
set_option linter.unusedSimpArgs false
open Go.RowKit
set_option maxRecDepth 100000

theorem uref_ms {own : Nat → Nat} {c d q p2 t2 : Nat} {w : World} {s : Us} {ms : List To4} (h : UrefAt own c d w q p2 t2 s ms) (dev : Int) (k : Nat) (g i : Int) : UrefAt own c d w q p2 t2 (remS s dev k g i) ms := by
  obtain ⟨v, hb, r⟩ := h
  refine ⟨v, ?_, r⟩
  unfold remS
  split
  · exact hb
  · exact hb
section
variable {own : Nat → Nat} {w : World} {p q rp tp p2 t2 r : Nat} {s : Us} {m : Nat → Int} {l : List Tr} {ms : List To4} {xk xd xs xg xq : Int} {xa xv : Nat} {xw : Bool}
set_option maxHeartbeats 2000000 in
theorem do_2 (hA : PA own w p rp tp r s m l) (hD : PD own w q p2 t2 r s m l ms) (hI : PI s l ms) (hms : ms.length < 4398046511103) (hbk : i64B xk) (hbs : i64B xs) (hba : xa < 18446744073709551616) (hbv : xv < 18446744073709551616) (hk : xk % 11 = 2) :
    Calls Tryz.prog 53 #[.agg #[.pointer (some ⟨p, 0, none⟩), .pointer (some ⟨q, 0, none⟩), .pointer (some ⟨rp, 0, none⟩), .pointer (some ⟨p2, 0, none⟩)], .agg #[.int .i64 xk, .int .i64 xd, .int .i64 xs, .int .u64 (xa : Int), .int .u64 (xv : Int), .bool xw, .int .i64 xg, .int .i64 xq]] w fun e w' => e = .returned (.bool true) ∧ ∃ own' s' m' l' ms', Step (fun x => x ≠ 0 ∧ x < 50) own w own' w' ∧ PA own' w' p rp tp r s' m' l' ∧ PD own' w' q p2 t2 r s' m' l' ms' ∧ PI s' l' ms' ∧ ms'.length ≤ ms.length + 1 := by
  have P1 := fun w => place_calls xk 11 w hbk.1 hbk.2 (by decide) (by decide)
  rw [hk] at P1
  have HP := Lib.hid P1
  have hS1 : Step (fun _ => False) own w (ext own w 50) (w.alloc (.cells #[.pointer (some ⟨p, 0, none⟩), .pointer (some ⟨q, 0, none⟩), .pointer (some ⟨rp, 0, none⟩), .pointer (some ⟨p2, 0, none⟩)] 36)) := ⟨(Upd.refl _ _).alloc _, fun b hb => ext_old _ _ _ hb⟩
  have hS2 : Step (fun _ => False) (ext own w 50) (w.alloc (.cells #[.pointer (some ⟨p, 0, none⟩), .pointer (some ⟨q, 0, none⟩), .pointer (some ⟨rp, 0, none⟩), .pointer (some ⟨p2, 0, none⟩)] 36)) (ext (ext own w 50) (w.alloc (.cells #[.pointer (some ⟨p, 0, none⟩), .pointer (some ⟨q, 0, none⟩), .pointer (some ⟨rp, 0, none⟩), .pointer (some ⟨p2, 0, none⟩)] 36)) 50) ((w.alloc (.cells #[.pointer (some ⟨p, 0, none⟩), .pointer (some ⟨q, 0, none⟩), .pointer (some ⟨rp, 0, none⟩), .pointer (some ⟨p2, 0, none⟩)] 36)).alloc (.cells #[.int .i64 xk, .int .i64 xd, .int .i64 xs, .int .u64 (xa : Int), .int .u64 (xv : Int), .bool xw, .int .i64 xg, .int .i64 xq] 49)) := ⟨(Upd.refl _ _).alloc _, fun b hb => ext_old _ _ _ hb⟩
  have hX : DX (ext (ext own w 50) (w.alloc (.cells #[.pointer (some ⟨p, 0, none⟩), .pointer (some ⟨q, 0, none⟩), .pointer (some ⟨rp, 0, none⟩), .pointer (some ⟨p2, 0, none⟩)] 36)) 50) ((w.alloc (.cells #[.pointer (some ⟨p, 0, none⟩), .pointer (some ⟨q, 0, none⟩), .pointer (some ⟨rp, 0, none⟩), .pointer (some ⟨p2, 0, none⟩)] 36)).alloc (.cells #[.int .i64 xk, .int .i64 xd, .int .i64 xs, .int .u64 (xa : Int), .int .u64 (xv : Int), .bool xw, .int .i64 xg, .int .i64 xq] 49)) w.heap.size (w.heap.size + 1) p q rp p2 xk xd xs xa xv xw xg xq := by
    obtain ⟨g1, g2⟩ := hS2.blk (Blk.new w _ _) (ext_new own w 50 (Nat.le_refl _)) (fun h => h)
    have g3 := Blk.new (w.alloc (.cells #[.pointer (some ⟨p, 0, none⟩), .pointer (some ⟨q, 0, none⟩), .pointer (some ⟨rp, 0, none⟩), .pointer (some ⟨p2, 0, none⟩)] 36)) 49 #[.int .i64 xk, .int .i64 xd, .int .i64 xs, .int .u64 (xa : Int), .int .u64 (xv : Int), .bool xw, .int .i64 xg, .int .i64 xq]
    have g4 : ext (ext own w 50) (w.alloc (.cells #[.pointer (some ⟨p, 0, none⟩), .pointer (some ⟨q, 0, none⟩), .pointer (some ⟨rp, 0, none⟩), .pointer (some ⟨p2, 0, none⟩)] 36)) 50 (w.alloc (.cells #[.pointer (some ⟨p, 0, none⟩), .pointer (some ⟨q, 0, none⟩), .pointer (some ⟨rp, 0, none⟩), .pointer (some ⟨p2, 0, none⟩)] 36)).heap.size = 50 := ext_new _ _ _ (Nat.le_refl _)
    rw [World.size_alloc] at g3 g4
    exact ⟨g1, g2, g3, g4⟩
  have hS := hS1.trans hS2
  have hA1 := hA.step hS (fun x h => h.elim)
  have hD1 := hD.step hS (fun x h => h.elim)
  obtain ⟨b0, b1, x1, x2, x3, x4, x5, x6, x7, lb, lx⟩ := hX.cells
  have H0 := Lib.hid (And.intro (hS.mono (C' := fun x => x ≠ 0 ∧ x < 50) (fun x h => h.elim)) (And.intro hA1 (And.intro hD1 (And.intro hX hI))))
  clear P1 hS1 hS2 hX hS hA1 hD1 hA hD hk hI
  go_enter Tryz.func53, Tryz.ntmps53
  go_wp2_with fail
  ((with_reducible refine (HP.out _).mono ?_); rintro e wz ⟨rfl, rfl⟩)
  clear HP
  generalize (ext (ext own w 50) (w.alloc (.cells #[.pointer (some ⟨p, 0, none⟩), .pointer (some ⟨q, 0, none⟩), .pointer (some ⟨rp, 0, none⟩), .pointer (some ⟨p2, 0, none⟩)] 36)) 50) = own1 at *
  generalize ((w.alloc (.cells #[.pointer (some ⟨p, 0, none⟩), .pointer (some ⟨q, 0, none⟩), .pointer (some ⟨rp, 0, none⟩), .pointer (some ⟨p2, 0, none⟩)] 36)).alloc (.cells #[.int .i64 xk, .int .i64 xd, .int .i64 xs, .int .u64 (xa : Int), .int .u64 (xv : Int), .bool xw, .int .i64 xg, .int .i64 xq] 49)) = w1 at *
  generalize hob : w.heap.size = ob at *
  generalize hxb : ob + 1 = xb at *
  have hdr : Step (fun _ => False) own1 w1 own1 w1.drew := (Step.refl _ _ _).drew
  have Hd := Lib.hid (And.intro (H0.out.1.trans (hdr.mono (fun x h => h.elim))) (And.intro (H0.out.2.1.step hdr (fun x h => h.elim)) (And.intro (H0.out.2.2.1.step hdr (fun x h => h.elim)) (And.intro (H0.out.2.2.2.1.step hdr (fun h => h)) H0.out.2.2.2.2))))
  have HDS := Lib.hid (H0.out.2.2.2.1.dS H0.out.2.2.1)
  clear hdr
  have HA := Lib.hid (io_SetX Hd.out.2.1.u xd xa)
  go_wp2_with fail
  refine wpE_region (S := dS ob xb q p t2 xd xs xa xv xg xq) (s := 28) (by kernel_rfl) ?_
  have hS : (dS ob xb q p t2 xd xs xa xv xg xq) _ := HDS.out
  refine wpE_take (i := 0) (oi := { dst := some 94, op := Go.Op.fieldAddr 36 (Go.Operand.tmp 2) 0, type := 0, pos := "law.go:49", after := #[], guard := none }) (v := ?_) rfl (by kernel_rfl) (fun _ _ _ h => h) (Or.inl ⟨by rfl, fun W hW => ?_⟩) hS ?_
  rotate_left
  · obtain ⟨hw1, hw2, hw3, hw4, hw5, hw6, hw7, hw8, hw9⟩ := hW; go_simp; (try go_bits); (try rw [if_pos (by omega)]); (try with_reducible rfl)
  (try simp only [Act.put, List.setIfInBounds_toArray, List.set_cons_succ, List.set_cons_zero])
  refine wpE_take (i := 1) (oi := { dst := some 95, op := Go.Op.load 29 (Go.Operand.tmp 94), type := 29, pos := "law.go:49", after := #[{ on := 0, ground := Go.Ground.data }], guard := none }) (v := ?_) rfl (by kernel_rfl) (fun _ _ _ h => h) (Or.inl ⟨by rfl, fun W hW => ?_⟩) hS ?_
  rotate_left
  · obtain ⟨hw1, hw2, hw3, hw4, hw5, hw6, hw7, hw8, hw9⟩ := hW; go_simp; (try go_bits); (try rw [if_pos (by omega)]); (try with_reducible rfl)
  (try simp only [Act.put, List.setIfInBounds_toArray, List.set_cons_succ, List.set_cons_zero])
  refine wpE_take (i := 2) (oi := { dst := some 96, op := Go.Op.fieldAddr 49 (Go.Operand.tmp 3) 1, type := 0, pos := "law.go:49", after := #[], guard := none }) (v := ?_) rfl (by kernel_rfl) (fun _ _ _ h => h) (Or.inl ⟨by rfl, fun W hW => ?_⟩) hS ?_
  rotate_left
  · obtain ⟨hw1, hw2, hw3, hw4, hw5, hw6, hw7, hw8, hw9⟩ := hW; go_simp; (try go_bits); (try rw [if_pos (by omega)]); (try with_reducible rfl)
  (try simp only [Act.put, List.setIfInBounds_toArray, List.set_cons_succ, List.set_cons_zero])
  refine wpE_take (i := 3) (oi := { dst := some 97, op := Go.Op.load 3 (Go.Operand.tmp 96), type := 3, pos := "law.go:49", after := #[{ on := 2, ground := Go.Ground.data }], guard := none }) (v := ?_) rfl (by kernel_rfl) (fun _ _ _ h => h) (Or.inl ⟨by rfl, fun W hW => ?_⟩) hS ?_
  rotate_left
  · obtain ⟨hw1, hw2, hw3, hw4, hw5, hw6, hw7, hw8, hw9⟩ := hW; go_simp; (try go_bits); (try rw [if_pos (by omega)]); (try with_reducible rfl)
  (try simp only [Act.put, List.setIfInBounds_toArray, List.set_cons_succ, List.set_cons_zero])
  refine wpE_take (i := 4) (oi := { dst := some 98, op := Go.Op.fieldAddr 49 (Go.Operand.tmp 3) 3, type := 0, pos := "law.go:49", after := #[], guard := none }) (v := ?_) rfl (by kernel_rfl) (fun _ _ _ h => h) (Or.inl ⟨by rfl, fun W hW => ?_⟩) hS ?_
  rotate_left
  · obtain ⟨hw1, hw2, hw3, hw4, hw5, hw6, hw7, hw8, hw9⟩ := hW; go_simp; (try go_bits); (try rw [if_pos (by omega)]); (try with_reducible rfl)
  (try simp only [Act.put, List.setIfInBounds_toArray, List.set_cons_succ, List.set_cons_zero])
  refine wpE_take (i := 5) (oi := { dst := some 99, op := Go.Op.load 23 (Go.Operand.tmp 98), type := 23, pos := "law.go:49", after := #[{ on := 4, ground := Go.Ground.data }], guard := none }) (v := ?_) rfl (by kernel_rfl) (fun _ _ _ h => h) (Or.inl ⟨by rfl, fun W hW => ?_⟩) hS ?_
  rotate_left
  · obtain ⟨hw1, hw2, hw3, hw4, hw5, hw6, hw7, hw8, hw9⟩ := hW; go_simp; (try go_bits); (try rw [if_pos (by omega)]); (try with_reducible rfl)
  (try simp only [Act.put, List.setIfInBounds_toArray, List.set_cons_succ, List.set_cons_zero])
  refine wpE_take (i := 7) (oi := { dst := some 101, op := Go.Op.fieldAddr 36 (Go.Operand.tmp 2) 1, type := 0, pos := "law.go:49", after := #[], guard := none }) (v := ?_) rfl (by kernel_rfl) (fun _ _ _ h => h) (Or.inl ⟨by rfl, fun W hW => ?_⟩) hS ?_
  rotate_left
  · obtain ⟨hw1, hw2, hw3, hw4, hw5, hw6, hw7, hw8, hw9⟩ := hW; go_simp; (try go_bits); (try rw [if_pos (by omega)]); (try with_reducible rfl)
  (try simp only [Act.put, List.setIfInBounds_toArray, List.set_cons_succ, List.set_cons_zero])
  refine wpE_take (i := 8) (oi := { dst := some 102, op := Go.Op.load 30 (Go.Operand.tmp 101), type := 30, pos := "law.go:49", after := #[{ on := 7, ground := Go.Ground.data }], guard := none }) (v := ?_) rfl (by kernel_rfl) (fun _ _ _ h => h) (Or.inl ⟨by rfl, fun W hW => ?_⟩) hS ?_
  rotate_left
  · obtain ⟨hw1, hw2, hw3, hw4, hw5, hw6, hw7, hw8, hw9⟩ := hW; go_simp; (try go_bits); (try rw [if_pos (by omega)]); (try with_reducible rfl)
  (try simp only [Act.put, List.setIfInBounds_toArray, List.set_cons_succ, List.set_cons_zero])
  refine wpE_take (i := 9) (oi := { dst := some 103, op := Go.Op.fieldAddr 49 (Go.Operand.tmp 3) 1, type := 0, pos := "law.go:49", after := #[], guard := none }) (v := ?_) rfl (by kernel_rfl) (fun _ _ _ h => h) (Or.inl ⟨by rfl, fun W hW => ?_⟩) hS ?_
  rotate_left
  · obtain ⟨hw1, hw2, hw3, hw4, hw5, hw6, hw7, hw8, hw9⟩ := hW; go_simp; (try go_bits); (try rw [if_pos (by omega)]); (try with_reducible rfl)
  (try simp only [Act.put, List.setIfInBounds_toArray, List.set_cons_succ, List.set_cons_zero])
  refine wpE_take (i := 10) (oi := { dst := some 104, op := Go.Op.load 3 (Go.Operand.tmp 103), type := 3, pos := "law.go:49", after := #[{ on := 9, ground := Go.Ground.data }], guard := none }) (v := ?_) rfl (by kernel_rfl) (fun _ _ _ h => h) (Or.inl ⟨by rfl, fun W hW => ?_⟩) hS ?_
  rotate_left
  · obtain ⟨hw1, hw2, hw3, hw4, hw5, hw6, hw7, hw8, hw9⟩ := hW; go_simp; (try go_bits); (try rw [if_pos (by omega)]); (try with_reducible rfl)
  (try simp only [Act.put, List.setIfInBounds_toArray, List.set_cons_succ, List.set_cons_zero])
  refine wpE_take (i := 11) (oi := { dst := some 105, op := Go.Op.fieldAddr 49 (Go.Operand.tmp 3) 3, type := 0, pos := "law.go:49", after := #[], guard := none }) (v := ?_) rfl (by kernel_rfl) (fun _ _ _ h => h) (Or.inl ⟨by rfl, fun W hW => ?_⟩) hS ?_
  rotate_left
  · obtain ⟨hw1, hw2, hw3, hw4, hw5, hw6, hw7, hw8, hw9⟩ := hW; go_simp; (try go_bits); (try rw [if_pos (by omega)]); (try with_reducible rfl)
  (try simp only [Act.put, List.setIfInBounds_toArray, List.set_cons_succ, List.set_cons_zero])
  refine wpE_take (i := 12) (oi := { dst := some 106, op := Go.Op.load 23 (Go.Operand.tmp 105), type := 23, pos := "law.go:49", after := #[{ on := 11, ground := Go.Ground.data }], guard := none }) (v := ?_) rfl (by kernel_rfl) (fun _ _ _ h => h) (Or.inl ⟨by rfl, fun W hW => ?_⟩) hS ?_
  rotate_left
  · obtain ⟨hw1, hw2, hw3, hw4, hw5, hw6, hw7, hw8, hw9⟩ := hW; go_simp; (try go_bits); (try rw [if_pos (by omega)]); (try with_reducible rfl)
  (try simp only [Act.put, List.setIfInBounds_toArray, List.set_cons_succ, List.set_cons_zero])
  refine wpE_only (i := 6) (oi := { dst := some 100, op := Go.Op.call { callee := Go.Callee.value (Go.Operand.func 9), args := #[Go.Operand.tmp 95, Go.Operand.tmp 97, Go.Operand.tmp 99], argTypes := #[29, 3, 23] }, type := 39, pos := "law.go:49", after := #[{ on := 1, ground := Go.Ground.data }, { on := 3, ground := Go.Ground.data }, { on := 5, ground := Go.Ground.data }], guard := none }) rfl (by kernel_rfl) (by rfl) (fun K hK => ?_)
  go_simp; refine HA.out.mono ?_; rintro e w2 ⟨rfl, hS2, hU2⟩
  have hP2 : PA own1 w2 p rp tp r (setSA s xd xa) m l := ⟨hU2, Hd.out.2.1.mm.step hS2 (by decide), Hd.out.2.1.t.step hS2 (by decide) (by decide)⟩
  have hD2 := Hd.out.2.2.1.step hS2 (by omega)
  have hX2 := Hd.out.2.2.2.1.step hS2 (by omega)
  have HB := Lib.hid (uref_Set hD2.ur (by decide) xd xa)
  have H2 := Lib.hid (And.intro (Hd.out.1.trans (hS2.mono (fun x h => by omega))) (And.intro hP2 (And.intro hD2 hX2)))
  have hS := hX2.dS hD2
  clear hS2 hU2 hP2 hD2 hX2 HA
  refine hK _ _ hS ?_; clear hK K
  (try simp only [Act.put, List.setIfInBounds_toArray, List.set_cons_succ, List.set_cons_zero])
  refine wpE_only (i := 13) (oi := { dst := some 107, op := Go.Op.call { callee := Go.Callee.value (Go.Operand.func 80), args := #[Go.Operand.tmp 102, Go.Operand.tmp 104, Go.Operand.tmp 106], argTypes := #[30, 3, 23] }, type := 3, pos := "law.go:49", after := #[{ on := 8, ground := Go.Ground.data }, { on := 10, ground := Go.Ground.data }, { on := 12, ground := Go.Ground.data }, { on := 6, ground := Go.Ground.chain }], guard := none }) rfl (by kernel_rfl) (by rfl) (fun K hK => ?_)
  go_simp; refine HB.out.mono ?_; rintro e w3 ⟨rfl, hS3, hU3⟩
  have hD3 : PD own1 w3 q p2 t2 r (setSA s xd xa) m l ms := ⟨H2.out.2.2.1.mr.step hS3 (by decide), hU3, H2.out.2.2.1.tr.step hS3 (by decide) (by decide)⟩
  have hP3 := H2.out.2.1.step hS3 (by omega)
  have hX3 := H2.out.2.2.2.step hS3 (by omega)
  have HC := Lib.hid (And.intro (io_Root hP3.u xd) (uref_Root hD3.ur xd))
  have H3 := Lib.hid (And.intro (H2.out.1.trans (hS3.mono (fun x h => by omega))) (And.intro hP3 (And.intro hD3 hX3)))
  have hS := hX3.dS hD3
  clear hS3 hU3 hP3 hD3 hX3 HB
  refine hK _ _ hS ?_; clear hK K
  (try simp only [Act.put, List.setIfInBounds_toArray, List.set_cons_succ, List.set_cons_zero])
  refine wpE_take (i := 14) (oi := { dst := some 108, op := Go.Op.binOp Go.BinOp.eql 3 (Go.Operand.tmp 100) (Go.Operand.tmp 107) 3, type := 4, pos := "law.go:49", after := #[{ on := 6, ground := Go.Ground.data }, { on := 13, ground := Go.Ground.data }], guard := none }) (v := ?_) rfl (by kernel_rfl) (fun _ _ _ h => h) (Or.inl ⟨by rfl, fun W hW => ?_⟩) hS ?_
  rotate_left
  · obtain ⟨hw1, hw2, hw3, hw4, hw5, hw6, hw7, hw8, hw9⟩ := hW; go_simp; (try go_bits); (try rw [if_pos (by omega)]); (try with_reducible rfl)
  (try simp only [Act.put, List.setIfInBounds_toArray, List.set_cons_succ, List.set_cons_zero])
  refine wpE_take (i := 15) (oi := { dst := some 109, op := Go.Op.move (Go.Operand.tmp 108), type := 4, pos := "law.go:49", after := #[{ on := 14, ground := Go.Ground.data }, { on := 13, ground := Go.Ground.chain }], guard := none }) (v := ?_) rfl (by kernel_rfl) (fun _ _ _ h => h) (Or.inl ⟨by rfl, fun W hW => ?_⟩) hS ?_
  rotate_left
  · obtain ⟨hw1, hw2, hw3, hw4, hw5, hw6, hw7, hw8, hw9⟩ := hW; go_simp; (try go_bits); (try rw [if_pos (by omega)]); (try with_reducible rfl)
  (try simp only [Act.put, List.setIfInBounds_toArray, List.set_cons_succ, List.set_cons_zero])
  refine wpE_take (i := 16) (oi := { dst := some 110, op := Go.Op.fieldAddr 36 (Go.Operand.tmp 2) 0, type := 0, pos := "law.go:49", after := #[{ on := 15, ground := Go.Ground.guard }], guard := some (15, true) }) (v := ?_) rfl (by kernel_rfl) (fun _ _ _ h => h) (Or.inl ⟨by rfl, fun W hW => ?_⟩) hS ?_
  rotate_left
  · obtain ⟨hw1, hw2, hw3, hw4, hw5, hw6, hw7, hw8, hw9⟩ := hW; go_simp; (try go_bits); (try rw [if_pos (by omega)]); (try with_reducible rfl)
  (try simp only [Act.put, List.setIfInBounds_toArray, List.set_cons_succ, List.set_cons_zero])
  refine wpE_take (i := 17) (oi := { dst := some 111, op := Go.Op.load 29 (Go.Operand.tmp 110), type := 29, pos := "law.go:49", after := #[{ on := 16, ground := Go.Ground.data }, { on := 15, ground := Go.Ground.guard }], guard := some (15, true) }) (v := ?_) rfl (by kernel_rfl) (fun _ _ _ h => h) (Or.inl ⟨by rfl, fun W hW => ?_⟩) hS ?_
  rotate_left
  · obtain ⟨hw1, hw2, hw3, hw4, hw5, hw6, hw7, hw8, hw9⟩ := hW; go_simp; (try go_bits); (try rw [if_pos (by omega)]); (try with_reducible rfl)
  (try simp only [Act.put, List.setIfInBounds_toArray, List.set_cons_succ, List.set_cons_zero])
  refine wpE_take (i := 18) (oi := { dst := some 112, op := Go.Op.fieldAddr 49 (Go.Operand.tmp 3) 1, type := 0, pos := "law.go:49", after := #[{ on := 15, ground := Go.Ground.guard }], guard := some (15, true) }) (v := ?_) rfl (by kernel_rfl) (fun _ _ _ h => h) (Or.inl ⟨by rfl, fun W hW => ?_⟩) hS ?_
  rotate_left
  · obtain ⟨hw1, hw2, hw3, hw4, hw5, hw6, hw7, hw8, hw9⟩ := hW; go_simp; (try go_bits); (try rw [if_pos (by omega)]); (try with_reducible rfl)
  (try simp only [Act.put, List.setIfInBounds_toArray, List.set_cons_succ, List.set_cons_zero])
  refine wpE_take (i := 19) (oi := { dst := some 113, op := Go.Op.load 3 (Go.Operand.tmp 112), type := 3, pos := "law.go:49", after := #[{ on := 18, ground := Go.Ground.data }, { on := 15, ground := Go.Ground.guard }], guard := some (15, true) }) (v := ?_) rfl (by kernel_rfl) (fun _ _ _ h => h) (Or.inl ⟨by rfl, fun W hW => ?_⟩) hS ?_
  rotate_left
  · obtain ⟨hw1, hw2, hw3, hw4, hw5, hw6, hw7, hw8, hw9⟩ := hW; go_simp; (try go_bits); (try rw [if_pos (by omega)]); (try with_reducible rfl)
  (try simp only [Act.put, List.setIfInBounds_toArray, List.set_cons_succ, List.set_cons_zero])
  refine wpE_take (i := 21) (oi := { dst := some 115, op := Go.Op.fieldAddr 36 (Go.Operand.tmp 2) 1, type := 0, pos := "law.go:49", after := #[{ on := 15, ground := Go.Ground.guard }], guard := some (15, true) }) (v := ?_) rfl (by kernel_rfl) (fun _ _ _ h => h) (Or.inl ⟨by rfl, fun W hW => ?_⟩) hS ?_
  rotate_left
  · obtain ⟨hw1, hw2, hw3, hw4, hw5, hw6, hw7, hw8, hw9⟩ := hW; go_simp; (try go_bits); (try rw [if_pos (by omega)]); (try with_reducible rfl)
  (try simp only [Act.put, List.setIfInBounds_toArray, List.set_cons_succ, List.set_cons_zero])
  refine wpE_take (i := 22) (oi := { dst := some 116, op := Go.Op.load 30 (Go.Operand.tmp 115), type := 30, pos := "law.go:49", after := #[{ on := 21, ground := Go.Ground.data }, { on := 15, ground := Go.Ground.guard }], guard := some (15, true) }) (v := ?_) rfl (by kernel_rfl) (fun _ _ _ h => h) (Or.inl ⟨by rfl, fun W hW => ?_⟩) hS ?_
  rotate_left
  · obtain ⟨hw1, hw2, hw3, hw4, hw5, hw6, hw7, hw8, hw9⟩ := hW; go_simp; (try go_bits); (try rw [if_pos (by omega)]); (try with_reducible rfl)
  (try simp only [Act.put, List.setIfInBounds_toArray, List.set_cons_succ, List.set_cons_zero])
  refine wpE_take (i := 23) (oi := { dst := some 117, op := Go.Op.fieldAddr 49 (Go.Operand.tmp 3) 1, type := 0, pos := "law.go:49", after := #[{ on := 15, ground := Go.Ground.guard }], guard := some (15, true) }) (v := ?_) rfl (by kernel_rfl) (fun _ _ _ h => h) (Or.inl ⟨by rfl, fun W hW => ?_⟩) hS ?_
  rotate_left
  · obtain ⟨hw1, hw2, hw3, hw4, hw5, hw6, hw7, hw8, hw9⟩ := hW; go_simp; (try go_bits); (try rw [if_pos (by omega)]); (try with_reducible rfl)
  (try simp only [Act.put, List.setIfInBounds_toArray, List.set_cons_succ, List.set_cons_zero])
  refine wpE_take (i := 24) (oi := { dst := some 118, op := Go.Op.load 3 (Go.Operand.tmp 117), type := 3, pos := "law.go:49", after := #[{ on := 23, ground := Go.Ground.data }, { on := 15, ground := Go.Ground.guard }], guard := some (15, true) }) (v := ?_) rfl (by kernel_rfl) (fun _ _ _ h => h) (Or.inl ⟨by rfl, fun W hW => ?_⟩) hS ?_
  rotate_left
  · obtain ⟨hw1, hw2, hw3, hw4, hw5, hw6, hw7, hw8, hw9⟩ := hW; go_simp; (try go_bits); (try rw [if_pos (by omega)]); (try with_reducible rfl)
  (try simp only [Act.put, List.setIfInBounds_toArray, List.set_cons_succ, List.set_cons_zero])
  refine wpE_only (i := 20) (oi := { dst := some 114, op := Go.Op.call { callee := Go.Callee.value (Go.Operand.func 64), args := #[Go.Operand.tmp 111, Go.Operand.tmp 113], argTypes := #[29, 3] }, type := 23, pos := "law.go:49", after := #[{ on := 17, ground := Go.Ground.data }, { on := 19, ground := Go.Ground.data }, { on := 15, ground := Go.Ground.chain }, { on := 15, ground := Go.Ground.guard }], guard := some (15, true) }) rfl (by kernel_rfl) (by rfl) (fun K hK => ?_)
  go_simp; refine HC.out.1.mono ?_; rintro e wz ⟨rfl, rfl⟩
  refine hK _ _ hS ?_; clear hK K
  (try simp only [Act.put, List.setIfInBounds_toArray, List.set_cons_succ, List.set_cons_zero])
  refine wpE_only (i := 25) (oi := { dst := some 119, op := Go.Op.call { callee := Go.Callee.value (Go.Operand.func 81), args := #[Go.Operand.tmp 116, Go.Operand.tmp 118], argTypes := #[30, 3] }, type := 23, pos := "law.go:49", after := #[{ on := 22, ground := Go.Ground.data }, { on := 24, ground := Go.Ground.data }, { on := 20, ground := Go.Ground.chain }, { on := 15, ground := Go.Ground.guard }], guard := some (15, true) }) rfl (by kernel_rfl) (by rfl) (fun K hK => ?_)
  go_simp; refine HC.out.2.mono ?_; rintro e wz ⟨rfl, rfl⟩
  refine hK _ _ hS ?_; clear hK K
  (try simp only [Act.put, List.setIfInBounds_toArray, List.set_cons_succ, List.set_cons_zero])
  refine wpE_take (i := 26) (oi := { dst := some 120, op := Go.Op.binOp Go.BinOp.eql 23 (Go.Operand.tmp 114) (Go.Operand.tmp 119) 23, type := 4, pos := "law.go:49", after := #[{ on := 20, ground := Go.Ground.data }, { on := 25, ground := Go.Ground.data }, { on := 15, ground := Go.Ground.guard }], guard := some (15, true) }) (v := ?_) rfl (by kernel_rfl) (fun _ _ _ h => h) (Or.inl ⟨by rfl, fun W hW => ?_⟩) hS ?_
  rotate_left
  · obtain ⟨hw1, hw2, hw3, hw4, hw5, hw6, hw7, hw8, hw9⟩ := hW; go_simp; (try go_bits); (try rw [if_pos (by omega)]); (try with_reducible rfl)
  (try simp only [Act.put, List.setIfInBounds_toArray, List.set_cons_succ, List.set_cons_zero])
  refine wpE_take (i := 27) (oi := { dst := some 121, op := Go.Op.pick (Go.Operand.tmp 109) (Go.Operand.tmp 120) (Go.Operand.const (Go.Value.bool false)), type := 4, pos := "law.go:49", after := #[{ on := 15, ground := Go.Ground.data }, { on := 26, ground := Go.Ground.data }], guard := none }) (v := ?_) rfl (by kernel_rfl) (fun _ _ _ h => h) (Or.inl ⟨by rfl, fun W hW => ?_⟩) hS ?_
  rotate_left
  · obtain ⟨hw1, hw2, hw3, hw4, hw5, hw6, hw7, hw8, hw9⟩ := hW; go_simp; (try go_bits); (try rw [if_pos (by omega)]); (try with_reducible rfl)
  (try simp only [Act.put, List.setIfInBounds_toArray, List.set_cons_succ, List.set_cons_zero])
  refine wpE_last (oi := { dst := some 4, op := Go.Op.assign (Go.Operand.tmp 121), type := 4, pos := "law.go:49", after := #[{ on := 27, ground := Go.Ground.data }, { on := 25, ground := Go.Ground.chain }, { on := 0, ground := Go.Ground.phase }, { on := 1, ground := Go.Ground.phase }, { on := 2, ground := Go.Ground.phase }, { on := 3, ground := Go.Ground.phase }, { on := 4, ground := Go.Ground.phase }, { on := 5, ground := Go.Ground.phase }, { on := 6, ground := Go.Ground.phase }, { on := 7, ground := Go.Ground.phase }, { on := 8, ground := Go.Ground.phase }, { on := 9, ground := Go.Ground.phase }, { on := 10, ground := Go.Ground.phase }, { on := 11, ground := Go.Ground.phase }, { on := 12, ground := Go.Ground.phase }, { on := 13, ground := Go.Ground.phase }, { on := 14, ground := Go.Ground.phase }, { on := 15, ground := Go.Ground.phase }, { on := 16, ground := Go.Ground.phase }, { on := 17, ground := Go.Ground.phase }, { on := 18, ground := Go.Ground.phase }, { on := 19, ground := Go.Ground.phase }, { on := 20, ground := Go.Ground.phase }, { on := 21, ground := Go.Ground.phase }, { on := 22, ground := Go.Ground.phase }, { on := 23, ground := Go.Ground.phase }, { on := 24, ground := Go.Ground.phase }, { on := 25, ground := Go.Ground.phase }, { on := 26, ground := Go.Ground.phase }, { on := 27, ground := Go.Ground.phase }], guard := none }) rfl (by kernel_rfl) (by kernel_rfl) (by rfl) (fun K hK => ?_)
  go_simp; (try go_bits); refine hK _ _ ?_; clear hK K
  clear hS
  go_wp2
  go_ret
  exact ⟨rfl, own1, _, _, _, ms, H3.out.1, H3.out.2.1, H3.out.2.2.1, Hd.out.2.2.2.2.set xd xa hba, by omega⟩
set_option maxHeartbeats 2000000 in
theorem do_3 (hA : PA own w p rp tp r s m l) (hD : PD own w q p2 t2 r s m l ms) (hI : PI s l ms) (hms : ms.length < 4398046511103) (hbk : i64B xk) (hbs : i64B xs) (hba : xa < 18446744073709551616) (hbv : xv < 18446744073709551616) (hk : xk % 11 = 3) :
    Calls Tryz.prog 53 #[.agg #[.pointer (some ⟨p, 0, none⟩), .pointer (some ⟨q, 0, none⟩), .pointer (some ⟨rp, 0, none⟩), .pointer (some ⟨p2, 0, none⟩)], .agg #[.int .i64 xk, .int .i64 xd, .int .i64 xs, .int .u64 (xa : Int), .int .u64 (xv : Int), .bool xw, .int .i64 xg, .int .i64 xq]] w fun e w' => e = .returned (.bool true) ∧ ∃ own' s' m' l' ms', Step (fun x => x ≠ 0 ∧ x < 50) own w own' w' ∧ PA own' w' p rp tp r s' m' l' ∧ PD own' w' q p2 t2 r s' m' l' ms' ∧ PI s' l' ms' ∧ ms'.length ≤ ms.length + 1 := by
  have P1 := fun w => place_calls xk 11 w hbk.1 hbk.2 (by decide) (by decide)
  rw [hk] at P1
  have HP := Lib.hid P1
  have hS1 : Step (fun _ => False) own w (ext own w 50) (w.alloc (.cells #[.pointer (some ⟨p, 0, none⟩), .pointer (some ⟨q, 0, none⟩), .pointer (some ⟨rp, 0, none⟩), .pointer (some ⟨p2, 0, none⟩)] 36)) := ⟨(Upd.refl _ _).alloc _, fun b hb => ext_old _ _ _ hb⟩
  have hS2 : Step (fun _ => False) (ext own w 50) (w.alloc (.cells #[.pointer (some ⟨p, 0, none⟩), .pointer (some ⟨q, 0, none⟩), .pointer (some ⟨rp, 0, none⟩), .pointer (some ⟨p2, 0, none⟩)] 36)) (ext (ext own w 50) (w.alloc (.cells #[.pointer (some ⟨p, 0, none⟩), .pointer (some ⟨q, 0, none⟩), .pointer (some ⟨rp, 0, none⟩), .pointer (some ⟨p2, 0, none⟩)] 36)) 50) ((w.alloc (.cells #[.pointer (some ⟨p, 0, none⟩), .pointer (some ⟨q, 0, none⟩), .pointer (some ⟨rp, 0, none⟩), .pointer (some ⟨p2, 0, none⟩)] 36)).alloc (.cells #[.int .i64 xk, .int .i64 xd, .int .i64 xs, .int .u64 (xa : Int), .int .u64 (xv : Int), .bool xw, .int .i64 xg, .int .i64 xq] 49)) := ⟨(Upd.refl _ _).alloc _, fun b hb => ext_old _ _ _ hb⟩
  have hX : DX (ext (ext own w 50) (w.alloc (.cells #[.pointer (some ⟨p, 0, none⟩), .pointer (some ⟨q, 0, none⟩), .pointer (some ⟨rp, 0, none⟩), .pointer (some ⟨p2, 0, none⟩)] 36)) 50) ((w.alloc (.cells #[.pointer (some ⟨p, 0, none⟩), .pointer (some ⟨q, 0, none⟩), .pointer (some ⟨rp, 0, none⟩), .pointer (some ⟨p2, 0, none⟩)] 36)).alloc (.cells #[.int .i64 xk, .int .i64 xd, .int .i64 xs, .int .u64 (xa : Int), .int .u64 (xv : Int), .bool xw, .int .i64 xg, .int .i64 xq] 49)) w.heap.size (w.heap.size + 1) p q rp p2 xk xd xs xa xv xw xg xq := by
    obtain ⟨g1, g2⟩ := hS2.blk (Blk.new w _ _) (ext_new own w 50 (Nat.le_refl _)) (fun h => h)
    have g3 := Blk.new (w.alloc (.cells #[.pointer (some ⟨p, 0, none⟩), .pointer (some ⟨q, 0, none⟩), .pointer (some ⟨rp, 0, none⟩), .pointer (some ⟨p2, 0, none⟩)] 36)) 49 #[.int .i64 xk, .int .i64 xd, .int .i64 xs, .int .u64 (xa : Int), .int .u64 (xv : Int), .bool xw, .int .i64 xg, .int .i64 xq]
    have g4 : ext (ext own w 50) (w.alloc (.cells #[.pointer (some ⟨p, 0, none⟩), .pointer (some ⟨q, 0, none⟩), .pointer (some ⟨rp, 0, none⟩), .pointer (some ⟨p2, 0, none⟩)] 36)) 50 (w.alloc (.cells #[.pointer (some ⟨p, 0, none⟩), .pointer (some ⟨q, 0, none⟩), .pointer (some ⟨rp, 0, none⟩), .pointer (some ⟨p2, 0, none⟩)] 36)).heap.size = 50 := ext_new _ _ _ (Nat.le_refl _)
    rw [World.size_alloc] at g3 g4
    exact ⟨g1, g2, g3, g4⟩
  have hS := hS1.trans hS2
  have hA1 := hA.step hS (fun x h => h.elim)
  have hD1 := hD.step hS (fun x h => h.elim)
  obtain ⟨b0, b1, x1, x2, x3, x4, x5, x6, x7, lb, lx⟩ := hX.cells
  have H0 := Lib.hid (And.intro (hS.mono (C' := fun x => x ≠ 0 ∧ x < 50) (fun x h => h.elim)) (And.intro hA1 (And.intro hD1 (And.intro hX hI))))
  clear P1 hS1 hS2 hX hS hA1 hD1 hA hD hk hI
  go_enter Tryz.func53, Tryz.ntmps53
  go_wp2_with fail
  ((with_reducible refine (HP.out _).mono ?_); rintro e wz ⟨rfl, rfl⟩)
  clear HP
  generalize (ext (ext own w 50) (w.alloc (.cells #[.pointer (some ⟨p, 0, none⟩), .pointer (some ⟨q, 0, none⟩), .pointer (some ⟨rp, 0, none⟩), .pointer (some ⟨p2, 0, none⟩)] 36)) 50) = own1 at *
  generalize ((w.alloc (.cells #[.pointer (some ⟨p, 0, none⟩), .pointer (some ⟨q, 0, none⟩), .pointer (some ⟨rp, 0, none⟩), .pointer (some ⟨p2, 0, none⟩)] 36)).alloc (.cells #[.int .i64 xk, .int .i64 xd, .int .i64 xs, .int .u64 (xa : Int), .int .u64 (xv : Int), .bool xw, .int .i64 xg, .int .i64 xq] 49)) = w1 at *
  generalize hob : w.heap.size = ob at *
  generalize hxb : ob + 1 = xb at *
  have hdr : Step (fun _ => False) own1 w1 own1 w1.drew := (Step.refl _ _ _).drew
  have Hd := Lib.hid (And.intro (H0.out.1.trans (hdr.mono (fun x h => h.elim))) (And.intro (H0.out.2.1.step hdr (fun x h => h.elim)) (And.intro (H0.out.2.2.1.step hdr (fun x h => h.elim)) (And.intro (H0.out.2.2.2.1.step hdr (fun h => h)) H0.out.2.2.2.2))))
  have HDS := Lib.hid (H0.out.2.2.2.1.dS H0.out.2.2.1)
  clear hdr
  have HA := Lib.hid (io_DropX Hd.out.2.1.u xd)
  go_wp2_with fail
  refine wpE_region (S := dS ob xb q p t2 xd xs xa xv xg xq) (s := 24) (by kernel_rfl) ?_
  have hS : (dS ob xb q p t2 xd xs xa xv xg xq) _ := HDS.out
  refine wpE_take (i := 0) (oi := { dst := some 124, op := Go.Op.fieldAddr 36 (Go.Operand.tmp 2) 0, type := 0, pos := "law.go:51", after := #[], guard := none }) (v := ?_) rfl (by kernel_rfl) (fun _ _ _ h => h) (Or.inl ⟨by rfl, fun W hW => ?_⟩) hS ?_
  rotate_left
  · obtain ⟨hw1, hw2, hw3, hw4, hw5, hw6, hw7, hw8, hw9⟩ := hW; go_simp; (try go_bits); (try rw [if_pos (by omega)]); (try with_reducible rfl)
  (try simp only [Act.put, List.setIfInBounds_toArray, List.set_cons_succ, List.set_cons_zero])
  refine wpE_take (i := 1) (oi := { dst := some 125, op := Go.Op.load 29 (Go.Operand.tmp 124), type := 29, pos := "law.go:51", after := #[{ on := 0, ground := Go.Ground.data }], guard := none }) (v := ?_) rfl (by kernel_rfl) (fun _ _ _ h => h) (Or.inl ⟨by rfl, fun W hW => ?_⟩) hS ?_
  rotate_left
  · obtain ⟨hw1, hw2, hw3, hw4, hw5, hw6, hw7, hw8, hw9⟩ := hW; go_simp; (try go_bits); (try rw [if_pos (by omega)]); (try with_reducible rfl)
  (try simp only [Act.put, List.setIfInBounds_toArray, List.set_cons_succ, List.set_cons_zero])
  refine wpE_take (i := 2) (oi := { dst := some 126, op := Go.Op.fieldAddr 49 (Go.Operand.tmp 3) 1, type := 0, pos := "law.go:51", after := #[], guard := none }) (v := ?_) rfl (by kernel_rfl) (fun _ _ _ h => h) (Or.inl ⟨by rfl, fun W hW => ?_⟩) hS ?_
  rotate_left
  · obtain ⟨hw1, hw2, hw3, hw4, hw5, hw6, hw7, hw8, hw9⟩ := hW; go_simp; (try go_bits); (try rw [if_pos (by omega)]); (try with_reducible rfl)
  (try simp only [Act.put, List.setIfInBounds_toArray, List.set_cons_succ, List.set_cons_zero])
  refine wpE_take (i := 3) (oi := { dst := some 127, op := Go.Op.load 3 (Go.Operand.tmp 126), type := 3, pos := "law.go:51", after := #[{ on := 2, ground := Go.Ground.data }], guard := none }) (v := ?_) rfl (by kernel_rfl) (fun _ _ _ h => h) (Or.inl ⟨by rfl, fun W hW => ?_⟩) hS ?_
  rotate_left
  · obtain ⟨hw1, hw2, hw3, hw4, hw5, hw6, hw7, hw8, hw9⟩ := hW; go_simp; (try go_bits); (try rw [if_pos (by omega)]); (try with_reducible rfl)
  (try simp only [Act.put, List.setIfInBounds_toArray, List.set_cons_succ, List.set_cons_zero])
  refine wpE_take (i := 5) (oi := { dst := some 129, op := Go.Op.fieldAddr 36 (Go.Operand.tmp 2) 1, type := 0, pos := "law.go:51", after := #[], guard := none }) (v := ?_) rfl (by kernel_rfl) (fun _ _ _ h => h) (Or.inl ⟨by rfl, fun W hW => ?_⟩) hS ?_
  rotate_left
  · obtain ⟨hw1, hw2, hw3, hw4, hw5, hw6, hw7, hw8, hw9⟩ := hW; go_simp; (try go_bits); (try rw [if_pos (by omega)]); (try with_reducible rfl)
  (try simp only [Act.put, List.setIfInBounds_toArray, List.set_cons_succ, List.set_cons_zero])
  refine wpE_take (i := 6) (oi := { dst := some 130, op := Go.Op.load 30 (Go.Operand.tmp 129), type := 30, pos := "law.go:51", after := #[{ on := 5, ground := Go.Ground.data }], guard := none }) (v := ?_) rfl (by kernel_rfl) (fun _ _ _ h => h) (Or.inl ⟨by rfl, fun W hW => ?_⟩) hS ?_
  rotate_left
  · obtain ⟨hw1, hw2, hw3, hw4, hw5, hw6, hw7, hw8, hw9⟩ := hW; go_simp; (try go_bits); (try rw [if_pos (by omega)]); (try with_reducible rfl)
  (try simp only [Act.put, List.setIfInBounds_toArray, List.set_cons_succ, List.set_cons_zero])
  refine wpE_take (i := 7) (oi := { dst := some 131, op := Go.Op.fieldAddr 49 (Go.Operand.tmp 3) 1, type := 0, pos := "law.go:51", after := #[], guard := none }) (v := ?_) rfl (by kernel_rfl) (fun _ _ _ h => h) (Or.inl ⟨by rfl, fun W hW => ?_⟩) hS ?_
  rotate_left
  · obtain ⟨hw1, hw2, hw3, hw4, hw5, hw6, hw7, hw8, hw9⟩ := hW; go_simp; (try go_bits); (try rw [if_pos (by omega)]); (try with_reducible rfl)
  (try simp only [Act.put, List.setIfInBounds_toArray, List.set_cons_succ, List.set_cons_zero])
  refine wpE_take (i := 8) (oi := { dst := some 132, op := Go.Op.load 3 (Go.Operand.tmp 131), type := 3, pos := "law.go:51", after := #[{ on := 7, ground := Go.Ground.data }], guard := none }) (v := ?_) rfl (by kernel_rfl) (fun _ _ _ h => h) (Or.inl ⟨by rfl, fun W hW => ?_⟩) hS ?_
  rotate_left
  · obtain ⟨hw1, hw2, hw3, hw4, hw5, hw6, hw7, hw8, hw9⟩ := hW; go_simp; (try go_bits); (try rw [if_pos (by omega)]); (try with_reducible rfl)
  (try simp only [Act.put, List.setIfInBounds_toArray, List.set_cons_succ, List.set_cons_zero])
  refine wpE_only (i := 4) (oi := { dst := some 128, op := Go.Op.call { callee := Go.Callee.value (Go.Operand.func 82), args := #[Go.Operand.tmp 125, Go.Operand.tmp 127], argTypes := #[29, 3] }, type := 39, pos := "law.go:51", after := #[{ on := 1, ground := Go.Ground.data }, { on := 3, ground := Go.Ground.data }], guard := none }) rfl (by kernel_rfl) (by rfl) (fun K hK => ?_)
  go_simp; refine HA.out.mono ?_; rintro e w2 ⟨rfl, hS2, hU2⟩
  have hP2 : PA own1 w2 p rp tp r (dropSA s xd) m l := ⟨hU2, Hd.out.2.1.mm.step hS2 (by decide), Hd.out.2.1.t.step hS2 (by decide) (by decide)⟩
  have hD2 := Hd.out.2.2.1.step hS2 (by omega)
  have hX2 := Hd.out.2.2.2.1.step hS2 (by omega)
  have HB := Lib.hid (uref_Drop hD2.ur (by decide) xd)
  have H2 := Lib.hid (And.intro (Hd.out.1.trans (hS2.mono (fun x h => by omega))) (And.intro hP2 (And.intro hD2 hX2)))
  have hS := hX2.dS hD2
  clear hS2 hU2 hP2 hD2 hX2 HA
  refine hK _ _ hS ?_; clear hK K
  (try simp only [Act.put, List.setIfInBounds_toArray, List.set_cons_succ, List.set_cons_zero])
  refine wpE_only (i := 9) (oi := { dst := some 133, op := Go.Op.call { callee := Go.Callee.value (Go.Operand.func 83), args := #[Go.Operand.tmp 130, Go.Operand.tmp 132], argTypes := #[30, 3] }, type := 3, pos := "law.go:51", after := #[{ on := 6, ground := Go.Ground.data }, { on := 8, ground := Go.Ground.data }, { on := 4, ground := Go.Ground.chain }], guard := none }) rfl (by kernel_rfl) (by rfl) (fun K hK => ?_)
  go_simp; refine HB.out.mono ?_; rintro e w3 ⟨rfl, hS3, hU3⟩
  have hD3 : PD own1 w3 q p2 t2 r (dropSA s xd) m l ms := ⟨H2.out.2.2.1.mr.step hS3 (by decide), hU3, H2.out.2.2.1.tr.step hS3 (by decide) (by decide)⟩
  have hP3 := H2.out.2.1.step hS3 (by omega)
  have hX3 := H2.out.2.2.2.step hS3 (by omega)
  have HC := Lib.hid (And.intro (io_Root hP3.u xd) (uref_Root hD3.ur xd))
  have H3 := Lib.hid (And.intro (H2.out.1.trans (hS3.mono (fun x h => by omega))) (And.intro hP3 (And.intro hD3 hX3)))
  have hS := hX3.dS hD3
  clear hS3 hU3 hP3 hD3 hX3 HB
  refine hK _ _ hS ?_; clear hK K
  (try simp only [Act.put, List.setIfInBounds_toArray, List.set_cons_succ, List.set_cons_zero])
  refine wpE_take (i := 10) (oi := { dst := some 134, op := Go.Op.binOp Go.BinOp.eql 3 (Go.Operand.tmp 128) (Go.Operand.tmp 133) 3, type := 4, pos := "law.go:51", after := #[{ on := 4, ground := Go.Ground.data }, { on := 9, ground := Go.Ground.data }], guard := none }) (v := ?_) rfl (by kernel_rfl) (fun _ _ _ h => h) (Or.inl ⟨by rfl, fun W hW => ?_⟩) hS ?_
  rotate_left
  · obtain ⟨hw1, hw2, hw3, hw4, hw5, hw6, hw7, hw8, hw9⟩ := hW; go_simp; (try go_bits); (try rw [if_pos (by omega)]); (try with_reducible rfl)
  (try simp only [Act.put, List.setIfInBounds_toArray, List.set_cons_succ, List.set_cons_zero])
  refine wpE_take (i := 11) (oi := { dst := some 135, op := Go.Op.move (Go.Operand.tmp 134), type := 4, pos := "law.go:51", after := #[{ on := 10, ground := Go.Ground.data }, { on := 9, ground := Go.Ground.chain }], guard := none }) (v := ?_) rfl (by kernel_rfl) (fun _ _ _ h => h) (Or.inl ⟨by rfl, fun W hW => ?_⟩) hS ?_
  rotate_left
  · obtain ⟨hw1, hw2, hw3, hw4, hw5, hw6, hw7, hw8, hw9⟩ := hW; go_simp; (try go_bits); (try rw [if_pos (by omega)]); (try with_reducible rfl)
  (try simp only [Act.put, List.setIfInBounds_toArray, List.set_cons_succ, List.set_cons_zero])
  refine wpE_take (i := 12) (oi := { dst := some 136, op := Go.Op.fieldAddr 36 (Go.Operand.tmp 2) 0, type := 0, pos := "law.go:51", after := #[{ on := 11, ground := Go.Ground.guard }], guard := some (11, true) }) (v := ?_) rfl (by kernel_rfl) (fun _ _ _ h => h) (Or.inl ⟨by rfl, fun W hW => ?_⟩) hS ?_
  rotate_left
  · obtain ⟨hw1, hw2, hw3, hw4, hw5, hw6, hw7, hw8, hw9⟩ := hW; go_simp; (try go_bits); (try rw [if_pos (by omega)]); (try with_reducible rfl)
  (try simp only [Act.put, List.setIfInBounds_toArray, List.set_cons_succ, List.set_cons_zero])
  refine wpE_take (i := 13) (oi := { dst := some 137, op := Go.Op.load 29 (Go.Operand.tmp 136), type := 29, pos := "law.go:51", after := #[{ on := 12, ground := Go.Ground.data }, { on := 11, ground := Go.Ground.guard }], guard := some (11, true) }) (v := ?_) rfl (by kernel_rfl) (fun _ _ _ h => h) (Or.inl ⟨by rfl, fun W hW => ?_⟩) hS ?_
  rotate_left
  · obtain ⟨hw1, hw2, hw3, hw4, hw5, hw6, hw7, hw8, hw9⟩ := hW; go_simp; (try go_bits); (try rw [if_pos (by omega)]); (try with_reducible rfl)
  (try simp only [Act.put, List.setIfInBounds_toArray, List.set_cons_succ, List.set_cons_zero])
  refine wpE_take (i := 14) (oi := { dst := some 138, op := Go.Op.fieldAddr 49 (Go.Operand.tmp 3) 1, type := 0, pos := "law.go:51", after := #[{ on := 11, ground := Go.Ground.guard }], guard := some (11, true) }) (v := ?_) rfl (by kernel_rfl) (fun _ _ _ h => h) (Or.inl ⟨by rfl, fun W hW => ?_⟩) hS ?_
  rotate_left
  · obtain ⟨hw1, hw2, hw3, hw4, hw5, hw6, hw7, hw8, hw9⟩ := hW; go_simp; (try go_bits); (try rw [if_pos (by omega)]); (try with_reducible rfl)
  (try simp only [Act.put, List.setIfInBounds_toArray, List.set_cons_succ, List.set_cons_zero])
  refine wpE_take (i := 15) (oi := { dst := some 139, op := Go.Op.load 3 (Go.Operand.tmp 138), type := 3, pos := "law.go:51", after := #[{ on := 14, ground := Go.Ground.data }, { on := 11, ground := Go.Ground.guard }], guard := some (11, true) }) (v := ?_) rfl (by kernel_rfl) (fun _ _ _ h => h) (Or.inl ⟨by rfl, fun W hW => ?_⟩) hS ?_
  rotate_left
  · obtain ⟨hw1, hw2, hw3, hw4, hw5, hw6, hw7, hw8, hw9⟩ := hW; go_simp; (try go_bits); (try rw [if_pos (by omega)]); (try with_reducible rfl)
  (try simp only [Act.put, List.setIfInBounds_toArray, List.set_cons_succ, List.set_cons_zero])
  refine wpE_take (i := 17) (oi := { dst := some 141, op := Go.Op.fieldAddr 36 (Go.Operand.tmp 2) 1, type := 0, pos := "law.go:51", after := #[{ on := 11, ground := Go.Ground.guard }], guard := some (11, true) }) (v := ?_) rfl (by kernel_rfl) (fun _ _ _ h => h) (Or.inl ⟨by rfl, fun W hW => ?_⟩) hS ?_
  rotate_left
  · obtain ⟨hw1, hw2, hw3, hw4, hw5, hw6, hw7, hw8, hw9⟩ := hW; go_simp; (try go_bits); (try rw [if_pos (by omega)]); (try with_reducible rfl)
  (try simp only [Act.put, List.setIfInBounds_toArray, List.set_cons_succ, List.set_cons_zero])
  refine wpE_take (i := 18) (oi := { dst := some 142, op := Go.Op.load 30 (Go.Operand.tmp 141), type := 30, pos := "law.go:51", after := #[{ on := 17, ground := Go.Ground.data }, { on := 11, ground := Go.Ground.guard }], guard := some (11, true) }) (v := ?_) rfl (by kernel_rfl) (fun _ _ _ h => h) (Or.inl ⟨by rfl, fun W hW => ?_⟩) hS ?_
  rotate_left
  · obtain ⟨hw1, hw2, hw3, hw4, hw5, hw6, hw7, hw8, hw9⟩ := hW; go_simp; (try go_bits); (try rw [if_pos (by omega)]); (try with_reducible rfl)
  (try simp only [Act.put, List.setIfInBounds_toArray, List.set_cons_succ, List.set_cons_zero])
  refine wpE_take (i := 19) (oi := { dst := some 143, op := Go.Op.fieldAddr 49 (Go.Operand.tmp 3) 1, type := 0, pos := "law.go:51", after := #[{ on := 11, ground := Go.Ground.guard }], guard := some (11, true) }) (v := ?_) rfl (by kernel_rfl) (fun _ _ _ h => h) (Or.inl ⟨by rfl, fun W hW => ?_⟩) hS ?_
  rotate_left
  · obtain ⟨hw1, hw2, hw3, hw4, hw5, hw6, hw7, hw8, hw9⟩ := hW; go_simp; (try go_bits); (try rw [if_pos (by omega)]); (try with_reducible rfl)
  (try simp only [Act.put, List.setIfInBounds_toArray, List.set_cons_succ, List.set_cons_zero])
  refine wpE_take (i := 20) (oi := { dst := some 144, op := Go.Op.load 3 (Go.Operand.tmp 143), type := 3, pos := "law.go:51", after := #[{ on := 19, ground := Go.Ground.data }, { on := 11, ground := Go.Ground.guard }], guard := some (11, true) }) (v := ?_) rfl (by kernel_rfl) (fun _ _ _ h => h) (Or.inl ⟨by rfl, fun W hW => ?_⟩) hS ?_
  rotate_left
  · obtain ⟨hw1, hw2, hw3, hw4, hw5, hw6, hw7, hw8, hw9⟩ := hW; go_simp; (try go_bits); (try rw [if_pos (by omega)]); (try with_reducible rfl)
  (try simp only [Act.put, List.setIfInBounds_toArray, List.set_cons_succ, List.set_cons_zero])
  refine wpE_only (i := 16) (oi := { dst := some 140, op := Go.Op.call { callee := Go.Callee.value (Go.Operand.func 64), args := #[Go.Operand.tmp 137, Go.Operand.tmp 139], argTypes := #[29, 3] }, type := 23, pos := "law.go:51", after := #[{ on := 13, ground := Go.Ground.data }, { on := 15, ground := Go.Ground.data }, { on := 11, ground := Go.Ground.chain }, { on := 11, ground := Go.Ground.guard }], guard := some (11, true) }) rfl (by kernel_rfl) (by rfl) (fun K hK => ?_)
  go_simp; refine HC.out.1.mono ?_; rintro e wz ⟨rfl, rfl⟩
  refine hK _ _ hS ?_; clear hK K
  (try simp only [Act.put, List.setIfInBounds_toArray, List.set_cons_succ, List.set_cons_zero])
  refine wpE_only (i := 21) (oi := { dst := some 145, op := Go.Op.call { callee := Go.Callee.value (Go.Operand.func 81), args := #[Go.Operand.tmp 142, Go.Operand.tmp 144], argTypes := #[30, 3] }, type := 23, pos := "law.go:51", after := #[{ on := 18, ground := Go.Ground.data }, { on := 20, ground := Go.Ground.data }, { on := 16, ground := Go.Ground.chain }, { on := 11, ground := Go.Ground.guard }], guard := some (11, true) }) rfl (by kernel_rfl) (by rfl) (fun K hK => ?_)
  go_simp; refine HC.out.2.mono ?_; rintro e wz ⟨rfl, rfl⟩
  refine hK _ _ hS ?_; clear hK K
  (try simp only [Act.put, List.setIfInBounds_toArray, List.set_cons_succ, List.set_cons_zero])
  refine wpE_take (i := 22) (oi := { dst := some 146, op := Go.Op.binOp Go.BinOp.eql 23 (Go.Operand.tmp 140) (Go.Operand.tmp 145) 23, type := 4, pos := "law.go:51", after := #[{ on := 16, ground := Go.Ground.data }, { on := 21, ground := Go.Ground.data }, { on := 11, ground := Go.Ground.guard }], guard := some (11, true) }) (v := ?_) rfl (by kernel_rfl) (fun _ _ _ h => h) (Or.inl ⟨by rfl, fun W hW => ?_⟩) hS ?_
  rotate_left
  · obtain ⟨hw1, hw2, hw3, hw4, hw5, hw6, hw7, hw8, hw9⟩ := hW; go_simp; (try go_bits); (try rw [if_pos (by omega)]); (try with_reducible rfl)
  (try simp only [Act.put, List.setIfInBounds_toArray, List.set_cons_succ, List.set_cons_zero])
  refine wpE_take (i := 23) (oi := { dst := some 147, op := Go.Op.pick (Go.Operand.tmp 135) (Go.Operand.tmp 146) (Go.Operand.const (Go.Value.bool false)), type := 4, pos := "law.go:51", after := #[{ on := 11, ground := Go.Ground.data }, { on := 22, ground := Go.Ground.data }], guard := none }) (v := ?_) rfl (by kernel_rfl) (fun _ _ _ h => h) (Or.inl ⟨by rfl, fun W hW => ?_⟩) hS ?_
  rotate_left
  · obtain ⟨hw1, hw2, hw3, hw4, hw5, hw6, hw7, hw8, hw9⟩ := hW; go_simp; (try go_bits); (try rw [if_pos (by omega)]); (try with_reducible rfl)
  (try simp only [Act.put, List.setIfInBounds_toArray, List.set_cons_succ, List.set_cons_zero])
  refine wpE_last (oi := { dst := some 4, op := Go.Op.assign (Go.Operand.tmp 147), type := 4, pos := "law.go:51", after := #[{ on := 23, ground := Go.Ground.data }, { on := 21, ground := Go.Ground.chain }, { on := 0, ground := Go.Ground.phase }, { on := 1, ground := Go.Ground.phase }, { on := 2, ground := Go.Ground.phase }, { on := 3, ground := Go.Ground.phase }, { on := 4, ground := Go.Ground.phase }, { on := 5, ground := Go.Ground.phase }, { on := 6, ground := Go.Ground.phase }, { on := 7, ground := Go.Ground.phase }, { on := 8, ground := Go.Ground.phase }, { on := 9, ground := Go.Ground.phase }, { on := 10, ground := Go.Ground.phase }, { on := 11, ground := Go.Ground.phase }, { on := 12, ground := Go.Ground.phase }, { on := 13, ground := Go.Ground.phase }, { on := 14, ground := Go.Ground.phase }, { on := 15, ground := Go.Ground.phase }, { on := 16, ground := Go.Ground.phase }, { on := 17, ground := Go.Ground.phase }, { on := 18, ground := Go.Ground.phase }, { on := 19, ground := Go.Ground.phase }, { on := 20, ground := Go.Ground.phase }, { on := 21, ground := Go.Ground.phase }, { on := 22, ground := Go.Ground.phase }, { on := 23, ground := Go.Ground.phase }], guard := none }) rfl (by kernel_rfl) (by kernel_rfl) (by rfl) (fun K hK => ?_)
  go_simp; (try go_bits); refine hK _ _ ?_; clear hK K
  clear hS
  go_wp2
  go_ret
  exact ⟨rfl, own1, _, _, _, ms, H3.out.1, H3.out.2.1, H3.out.2.2.1, Hd.out.2.2.2.2.drop xd, by omega⟩
set_option maxHeartbeats 2000000 in
theorem do_4 (hA : PA own w p rp tp r s m l) (hD : PD own w q p2 t2 r s m l ms) (hI : PI s l ms) (hms : ms.length < 4398046511103) (hbk : i64B xk) (hbs : i64B xs) (hba : xa < 18446744073709551616) (hbv : xv < 18446744073709551616) (hk : xk % 11 = 4) :
    Calls Tryz.prog 53 #[.agg #[.pointer (some ⟨p, 0, none⟩), .pointer (some ⟨q, 0, none⟩), .pointer (some ⟨rp, 0, none⟩), .pointer (some ⟨p2, 0, none⟩)], .agg #[.int .i64 xk, .int .i64 xd, .int .i64 xs, .int .u64 (xa : Int), .int .u64 (xv : Int), .bool xw, .int .i64 xg, .int .i64 xq]] w fun e w' => e = .returned (.bool true) ∧ ∃ own' s' m' l' ms', Step (fun x => x ≠ 0 ∧ x < 50) own w own' w' ∧ PA own' w' p rp tp r s' m' l' ∧ PD own' w' q p2 t2 r s' m' l' ms' ∧ PI s' l' ms' ∧ ms'.length ≤ ms.length + 1 := by
  have P1 := fun w => place_calls xk 11 w hbk.1 hbk.2 (by decide) (by decide)
  rw [hk] at P1
  have HP := Lib.hid P1
  have hS1 : Step (fun _ => False) own w (ext own w 50) (w.alloc (.cells #[.pointer (some ⟨p, 0, none⟩), .pointer (some ⟨q, 0, none⟩), .pointer (some ⟨rp, 0, none⟩), .pointer (some ⟨p2, 0, none⟩)] 36)) := ⟨(Upd.refl _ _).alloc _, fun b hb => ext_old _ _ _ hb⟩
  have hS2 : Step (fun _ => False) (ext own w 50) (w.alloc (.cells #[.pointer (some ⟨p, 0, none⟩), .pointer (some ⟨q, 0, none⟩), .pointer (some ⟨rp, 0, none⟩), .pointer (some ⟨p2, 0, none⟩)] 36)) (ext (ext own w 50) (w.alloc (.cells #[.pointer (some ⟨p, 0, none⟩), .pointer (some ⟨q, 0, none⟩), .pointer (some ⟨rp, 0, none⟩), .pointer (some ⟨p2, 0, none⟩)] 36)) 50) ((w.alloc (.cells #[.pointer (some ⟨p, 0, none⟩), .pointer (some ⟨q, 0, none⟩), .pointer (some ⟨rp, 0, none⟩), .pointer (some ⟨p2, 0, none⟩)] 36)).alloc (.cells #[.int .i64 xk, .int .i64 xd, .int .i64 xs, .int .u64 (xa : Int), .int .u64 (xv : Int), .bool xw, .int .i64 xg, .int .i64 xq] 49)) := ⟨(Upd.refl _ _).alloc _, fun b hb => ext_old _ _ _ hb⟩
  have hX : DX (ext (ext own w 50) (w.alloc (.cells #[.pointer (some ⟨p, 0, none⟩), .pointer (some ⟨q, 0, none⟩), .pointer (some ⟨rp, 0, none⟩), .pointer (some ⟨p2, 0, none⟩)] 36)) 50) ((w.alloc (.cells #[.pointer (some ⟨p, 0, none⟩), .pointer (some ⟨q, 0, none⟩), .pointer (some ⟨rp, 0, none⟩), .pointer (some ⟨p2, 0, none⟩)] 36)).alloc (.cells #[.int .i64 xk, .int .i64 xd, .int .i64 xs, .int .u64 (xa : Int), .int .u64 (xv : Int), .bool xw, .int .i64 xg, .int .i64 xq] 49)) w.heap.size (w.heap.size + 1) p q rp p2 xk xd xs xa xv xw xg xq := by
    obtain ⟨g1, g2⟩ := hS2.blk (Blk.new w _ _) (ext_new own w 50 (Nat.le_refl _)) (fun h => h)
    have g3 := Blk.new (w.alloc (.cells #[.pointer (some ⟨p, 0, none⟩), .pointer (some ⟨q, 0, none⟩), .pointer (some ⟨rp, 0, none⟩), .pointer (some ⟨p2, 0, none⟩)] 36)) 49 #[.int .i64 xk, .int .i64 xd, .int .i64 xs, .int .u64 (xa : Int), .int .u64 (xv : Int), .bool xw, .int .i64 xg, .int .i64 xq]
    have g4 : ext (ext own w 50) (w.alloc (.cells #[.pointer (some ⟨p, 0, none⟩), .pointer (some ⟨q, 0, none⟩), .pointer (some ⟨rp, 0, none⟩), .pointer (some ⟨p2, 0, none⟩)] 36)) 50 (w.alloc (.cells #[.pointer (some ⟨p, 0, none⟩), .pointer (some ⟨q, 0, none⟩), .pointer (some ⟨rp, 0, none⟩), .pointer (some ⟨p2, 0, none⟩)] 36)).heap.size = 50 := ext_new _ _ _ (Nat.le_refl _)
    rw [World.size_alloc] at g3 g4
    exact ⟨g1, g2, g3, g4⟩
  have hS := hS1.trans hS2
  have hA1 := hA.step hS (fun x h => h.elim)
  have hD1 := hD.step hS (fun x h => h.elim)
  obtain ⟨b0, b1, x1, x2, x3, x4, x5, x6, x7, lb, lx⟩ := hX.cells
  have H0 := Lib.hid (And.intro (hS.mono (C' := fun x => x ≠ 0 ∧ x < 50) (fun x h => h.elim)) (And.intro hA1 (And.intro hD1 (And.intro hX hI))))
  clear P1 hS1 hS2 hX hS hA1 hD1 hA hD hk hI
  go_enter Tryz.func53, Tryz.ntmps53
  go_wp2_with fail
  ((with_reducible refine (HP.out _).mono ?_); rintro e wz ⟨rfl, rfl⟩)
  clear HP
  generalize (ext (ext own w 50) (w.alloc (.cells #[.pointer (some ⟨p, 0, none⟩), .pointer (some ⟨q, 0, none⟩), .pointer (some ⟨rp, 0, none⟩), .pointer (some ⟨p2, 0, none⟩)] 36)) 50) = own1 at *
  generalize ((w.alloc (.cells #[.pointer (some ⟨p, 0, none⟩), .pointer (some ⟨q, 0, none⟩), .pointer (some ⟨rp, 0, none⟩), .pointer (some ⟨p2, 0, none⟩)] 36)).alloc (.cells #[.int .i64 xk, .int .i64 xd, .int .i64 xs, .int .u64 (xa : Int), .int .u64 (xv : Int), .bool xw, .int .i64 xg, .int .i64 xq] 49)) = w1 at *
  generalize hob : w.heap.size = ob at *
  generalize hxb : ob + 1 = xb at *
  have hdr : Step (fun _ => False) own1 w1 own1 w1.drew := (Step.refl _ _ _).drew
  have Hd := Lib.hid (And.intro (H0.out.1.trans (hdr.mono (fun x h => h.elim))) (And.intro (H0.out.2.1.step hdr (fun x h => h.elim)) (And.intro (H0.out.2.2.1.step hdr (fun x h => h.elim)) (And.intro (H0.out.2.2.2.1.step hdr (fun h => h)) H0.out.2.2.2.2))))
  have HDS := Lib.hid (H0.out.2.2.2.1.dS H0.out.2.2.1)
  clear hdr
  have hA0 := io_RemapX Hd.out.2.1.u xd xv hbv xg xq
  obtain ⟨z, hz⟩ : ∃ z : Int, (if remOk xd xv then (0 : Int) else 1) = z := ⟨_, rfl⟩
  rw [hz] at hA0
  have HA := Lib.hid hA0
  have HZ := Lib.hid hz
  clear hA0 hz
  go_wp2_with fail
  refine wpE_region (S := dS ob xb q p t2 xd xs xa xv xg xq) (s := 19) (by kernel_rfl) ?_
  have hS : (dS ob xb q p t2 xd xs xa xv xg xq) _ := HDS.out
  refine wpE_take (i := 0) (oi := { dst := some 150, op := Go.Op.fieldAddr 36 (Go.Operand.tmp 2) 0, type := 0, pos := "law.go:53", after := #[], guard := none }) (v := ?_) rfl (by kernel_rfl) (fun _ _ _ h => h) (Or.inl ⟨by rfl, fun W hW => ?_⟩) hS ?_
  rotate_left
  · obtain ⟨hw1, hw2, hw3, hw4, hw5, hw6, hw7, hw8, hw9⟩ := hW; go_simp; (try go_bits); (try rw [if_pos (by omega)]); (try with_reducible rfl)
  (try simp only [Act.put, List.setIfInBounds_toArray, List.set_cons_succ, List.set_cons_zero])
  refine wpE_take (i := 1) (oi := { dst := some 151, op := Go.Op.load 29 (Go.Operand.tmp 150), type := 29, pos := "law.go:53", after := #[{ on := 0, ground := Go.Ground.data }], guard := none }) (v := ?_) rfl (by kernel_rfl) (fun _ _ _ h => h) (Or.inl ⟨by rfl, fun W hW => ?_⟩) hS ?_
  rotate_left
  · obtain ⟨hw1, hw2, hw3, hw4, hw5, hw6, hw7, hw8, hw9⟩ := hW; go_simp; (try go_bits); (try rw [if_pos (by omega)]); (try with_reducible rfl)
  (try simp only [Act.put, List.setIfInBounds_toArray, List.set_cons_succ, List.set_cons_zero])
  refine wpE_take (i := 2) (oi := { dst := some 152, op := Go.Op.fieldAddr 49 (Go.Operand.tmp 3) 1, type := 0, pos := "law.go:53", after := #[], guard := none }) (v := ?_) rfl (by kernel_rfl) (fun _ _ _ h => h) (Or.inl ⟨by rfl, fun W hW => ?_⟩) hS ?_
  rotate_left
  · obtain ⟨hw1, hw2, hw3, hw4, hw5, hw6, hw7, hw8, hw9⟩ := hW; go_simp; (try go_bits); (try rw [if_pos (by omega)]); (try with_reducible rfl)
  (try simp only [Act.put, List.setIfInBounds_toArray, List.set_cons_succ, List.set_cons_zero])
  refine wpE_take (i := 3) (oi := { dst := some 153, op := Go.Op.load 3 (Go.Operand.tmp 152), type := 3, pos := "law.go:53", after := #[{ on := 2, ground := Go.Ground.data }], guard := none }) (v := ?_) rfl (by kernel_rfl) (fun _ _ _ h => h) (Or.inl ⟨by rfl, fun W hW => ?_⟩) hS ?_
  rotate_left
  · obtain ⟨hw1, hw2, hw3, hw4, hw5, hw6, hw7, hw8, hw9⟩ := hW; go_simp; (try go_bits); (try rw [if_pos (by omega)]); (try with_reducible rfl)
  (try simp only [Act.put, List.setIfInBounds_toArray, List.set_cons_succ, List.set_cons_zero])
  refine wpE_take (i := 4) (oi := { dst := some 154, op := Go.Op.fieldAddr 49 (Go.Operand.tmp 3) 4, type := 0, pos := "law.go:53", after := #[], guard := none }) (v := ?_) rfl (by kernel_rfl) (fun _ _ _ h => h) (Or.inl ⟨by rfl, fun W hW => ?_⟩) hS ?_
  rotate_left
  · obtain ⟨hw1, hw2, hw3, hw4, hw5, hw6, hw7, hw8, hw9⟩ := hW; go_simp; (try go_bits); (try rw [if_pos (by omega)]); (try with_reducible rfl)
  (try simp only [Act.put, List.setIfInBounds_toArray, List.set_cons_succ, List.set_cons_zero])
  refine wpE_take (i := 5) (oi := { dst := some 155, op := Go.Op.load 23 (Go.Operand.tmp 154), type := 23, pos := "law.go:53", after := #[{ on := 4, ground := Go.Ground.data }], guard := none }) (v := ?_) rfl (by kernel_rfl) (fun _ _ _ h => h) (Or.inl ⟨by rfl, fun W hW => ?_⟩) hS ?_
  rotate_left
  · obtain ⟨hw1, hw2, hw3, hw4, hw5, hw6, hw7, hw8, hw9⟩ := hW; go_simp; (try go_bits); (try rw [if_pos (by omega)]); (try with_reducible rfl)
  (try simp only [Act.put, List.setIfInBounds_toArray, List.set_cons_succ, List.set_cons_zero])
  refine wpE_take (i := 6) (oi := { dst := some 156, op := Go.Op.fieldAddr 49 (Go.Operand.tmp 3) 6, type := 0, pos := "law.go:53", after := #[], guard := none }) (v := ?_) rfl (by kernel_rfl) (fun _ _ _ h => h) (Or.inl ⟨by rfl, fun W hW => ?_⟩) hS ?_
  rotate_left
  · obtain ⟨hw1, hw2, hw3, hw4, hw5, hw6, hw7, hw8, hw9⟩ := hW; go_simp; (try go_bits); (try rw [if_pos (by omega)]); (try with_reducible rfl)
  (try simp only [Act.put, List.setIfInBounds_toArray, List.set_cons_succ, List.set_cons_zero])
  refine wpE_take (i := 7) (oi := { dst := some 157, op := Go.Op.load 47 (Go.Operand.tmp 156), type := 47, pos := "law.go:53", after := #[{ on := 6, ground := Go.Ground.data }], guard := none }) (v := ?_) rfl (by kernel_rfl) (fun _ _ _ h => h) (Or.inl ⟨by rfl, fun W hW => ?_⟩) hS ?_
  rotate_left
  · obtain ⟨hw1, hw2, hw3, hw4, hw5, hw6, hw7, hw8, hw9⟩ := hW; go_simp; (try go_bits); (try rw [if_pos (by omega)]); (try with_reducible rfl)
  (try simp only [Act.put, List.setIfInBounds_toArray, List.set_cons_succ, List.set_cons_zero])
  refine wpE_take (i := 9) (oi := { dst := some 159, op := Go.Op.fieldAddr 36 (Go.Operand.tmp 2) 1, type := 0, pos := "law.go:53", after := #[], guard := none }) (v := ?_) rfl (by kernel_rfl) (fun _ _ _ h => h) (Or.inl ⟨by rfl, fun W hW => ?_⟩) hS ?_
  rotate_left
  · obtain ⟨hw1, hw2, hw3, hw4, hw5, hw6, hw7, hw8, hw9⟩ := hW; go_simp; (try go_bits); (try rw [if_pos (by omega)]); (try with_reducible rfl)
  (try simp only [Act.put, List.setIfInBounds_toArray, List.set_cons_succ, List.set_cons_zero])
  refine wpE_take (i := 10) (oi := { dst := some 160, op := Go.Op.load 30 (Go.Operand.tmp 159), type := 30, pos := "law.go:53", after := #[{ on := 9, ground := Go.Ground.data }], guard := none }) (v := ?_) rfl (by kernel_rfl) (fun _ _ _ h => h) (Or.inl ⟨by rfl, fun W hW => ?_⟩) hS ?_
  rotate_left
  · obtain ⟨hw1, hw2, hw3, hw4, hw5, hw6, hw7, hw8, hw9⟩ := hW; go_simp; (try go_bits); (try rw [if_pos (by omega)]); (try with_reducible rfl)
  (try simp only [Act.put, List.setIfInBounds_toArray, List.set_cons_succ, List.set_cons_zero])
  refine wpE_take (i := 11) (oi := { dst := some 161, op := Go.Op.fieldAddr 49 (Go.Operand.tmp 3) 1, type := 0, pos := "law.go:53", after := #[], guard := none }) (v := ?_) rfl (by kernel_rfl) (fun _ _ _ h => h) (Or.inl ⟨by rfl, fun W hW => ?_⟩) hS ?_
  rotate_left
  · obtain ⟨hw1, hw2, hw3, hw4, hw5, hw6, hw7, hw8, hw9⟩ := hW; go_simp; (try go_bits); (try rw [if_pos (by omega)]); (try with_reducible rfl)
  (try simp only [Act.put, List.setIfInBounds_toArray, List.set_cons_succ, List.set_cons_zero])
  refine wpE_take (i := 12) (oi := { dst := some 162, op := Go.Op.load 3 (Go.Operand.tmp 161), type := 3, pos := "law.go:53", after := #[{ on := 11, ground := Go.Ground.data }], guard := none }) (v := ?_) rfl (by kernel_rfl) (fun _ _ _ h => h) (Or.inl ⟨by rfl, fun W hW => ?_⟩) hS ?_
  rotate_left
  · obtain ⟨hw1, hw2, hw3, hw4, hw5, hw6, hw7, hw8, hw9⟩ := hW; go_simp; (try go_bits); (try rw [if_pos (by omega)]); (try with_reducible rfl)
  (try simp only [Act.put, List.setIfInBounds_toArray, List.set_cons_succ, List.set_cons_zero])
  refine wpE_take (i := 13) (oi := { dst := some 163, op := Go.Op.fieldAddr 49 (Go.Operand.tmp 3) 4, type := 0, pos := "law.go:53", after := #[], guard := none }) (v := ?_) rfl (by kernel_rfl) (fun _ _ _ h => h) (Or.inl ⟨by rfl, fun W hW => ?_⟩) hS ?_
  rotate_left
  · obtain ⟨hw1, hw2, hw3, hw4, hw5, hw6, hw7, hw8, hw9⟩ := hW; go_simp; (try go_bits); (try rw [if_pos (by omega)]); (try with_reducible rfl)
  (try simp only [Act.put, List.setIfInBounds_toArray, List.set_cons_succ, List.set_cons_zero])
  refine wpE_take (i := 14) (oi := { dst := some 164, op := Go.Op.load 23 (Go.Operand.tmp 163), type := 23, pos := "law.go:53", after := #[{ on := 13, ground := Go.Ground.data }], guard := none }) (v := ?_) rfl (by kernel_rfl) (fun _ _ _ h => h) (Or.inl ⟨by rfl, fun W hW => ?_⟩) hS ?_
  rotate_left
  · obtain ⟨hw1, hw2, hw3, hw4, hw5, hw6, hw7, hw8, hw9⟩ := hW; go_simp; (try go_bits); (try rw [if_pos (by omega)]); (try with_reducible rfl)
  (try simp only [Act.put, List.setIfInBounds_toArray, List.set_cons_succ, List.set_cons_zero])
  refine wpE_take (i := 15) (oi := { dst := some 165, op := Go.Op.fieldAddr 49 (Go.Operand.tmp 3) 6, type := 0, pos := "law.go:53", after := #[], guard := none }) (v := ?_) rfl (by kernel_rfl) (fun _ _ _ h => h) (Or.inl ⟨by rfl, fun W hW => ?_⟩) hS ?_
  rotate_left
  · obtain ⟨hw1, hw2, hw3, hw4, hw5, hw6, hw7, hw8, hw9⟩ := hW; go_simp; (try go_bits); (try rw [if_pos (by omega)]); (try with_reducible rfl)
  (try simp only [Act.put, List.setIfInBounds_toArray, List.set_cons_succ, List.set_cons_zero])
  refine wpE_take (i := 16) (oi := { dst := some 166, op := Go.Op.load 47 (Go.Operand.tmp 165), type := 47, pos := "law.go:53", after := #[{ on := 15, ground := Go.Ground.data }], guard := none }) (v := ?_) rfl (by kernel_rfl) (fun _ _ _ h => h) (Or.inl ⟨by rfl, fun W hW => ?_⟩) hS ?_
  rotate_left
  · obtain ⟨hw1, hw2, hw3, hw4, hw5, hw6, hw7, hw8, hw9⟩ := hW; go_simp; (try go_bits); (try rw [if_pos (by omega)]); (try with_reducible rfl)
  (try simp only [Act.put, List.setIfInBounds_toArray, List.set_cons_succ, List.set_cons_zero])
  refine wpE_only (i := 8) (oi := { dst := some 158, op := Go.Op.call { callee := Go.Callee.value (Go.Operand.func 84), args := #[Go.Operand.tmp 151, Go.Operand.tmp 153, Go.Operand.tmp 155, Go.Operand.tmp 157], argTypes := #[29, 3, 23, 47] }, type := 39, pos := "law.go:53", after := #[{ on := 1, ground := Go.Ground.data }, { on := 3, ground := Go.Ground.data }, { on := 5, ground := Go.Ground.data }, { on := 7, ground := Go.Ground.data }], guard := none }) rfl (by kernel_rfl) (by rfl) (fun K hK => ?_)
  go_simp; refine HA.out.mono ?_; rintro e w2 ⟨rfl, own2, hS2, hU2⟩
  have hP2 : PA own2 w2 p rp tp r (remS s xd xv xg xq) m l := ⟨hU2, Hd.out.2.1.mm.step hS2 (by decide), Hd.out.2.1.t.step hS2 (by decide) (by decide)⟩
  have hD2 := Hd.out.2.2.1.step hS2 (by omega)
  have hX2 := Hd.out.2.2.2.1.step hS2 (by omega)
  have hB0 := uref_Remap hD2.ur (by decide) (by omega) xd xv hbv xg xq
  rw [HZ.out] at hB0
  have HB := Lib.hid hB0
  have H2 := Lib.hid (And.intro (Hd.out.1.trans (hS2.mono (fun x h => by omega))) (And.intro hP2 (And.intro hD2 hX2)))
  have hS := hX2.dS hD2
  clear hS2 hU2 hP2 hD2 hX2 HA hB0
  refine hK _ _ hS ?_; clear hK K
  (try simp only [Act.put, List.setIfInBounds_toArray, List.set_cons_succ, List.set_cons_zero])
  refine wpE_only (i := 17) (oi := { dst := some 167, op := Go.Op.call { callee := Go.Callee.value (Go.Operand.func 85), args := #[Go.Operand.tmp 160, Go.Operand.tmp 162, Go.Operand.tmp 164, Go.Operand.tmp 166], argTypes := #[30, 3, 23, 47] }, type := 3, pos := "law.go:53", after := #[{ on := 10, ground := Go.Ground.data }, { on := 12, ground := Go.Ground.data }, { on := 14, ground := Go.Ground.data }, { on := 16, ground := Go.Ground.data }, { on := 8, ground := Go.Ground.chain }], guard := none }) rfl (by kernel_rfl) (by rfl) (fun K hK => ?_)
  go_simp; refine HB.out.mono ?_; rintro e w3 ⟨rfl, own3, hS3, hU3⟩
  have hD3 : PD own3 w3 q p2 t2 r (remS s xd xv xg xq) m l (if remOk xd xv then ms ++ [⟨xd, xv, xg, xq⟩] else ms) := ⟨H2.out.2.2.1.mr.step hS3 (by decide), uref_ms hU3 xd xv xg xq, H2.out.2.2.1.tr.step hS3 (by decide) (by decide)⟩
  have hP3 := H2.out.2.1.step hS3 (by omega)
  have hX3 := H2.out.2.2.2.step hS3 (by omega)
  have H3 := Lib.hid (And.intro (H2.out.1.trans (hS3.mono (fun x h => by omega))) (And.intro hP3 hD3))
  have hS := hX3.dS hD3
  clear hS3 hU3 hP3 hD3 hX3 HB
  refine hK _ _ hS ?_; clear hK K
  (try simp only [Act.put, List.setIfInBounds_toArray, List.set_cons_succ, List.set_cons_zero])
  refine wpE_take (i := 18) (oi := { dst := some 168, op := Go.Op.binOp Go.BinOp.eql 3 (Go.Operand.tmp 158) (Go.Operand.tmp 167) 3, type := 4, pos := "law.go:53", after := #[{ on := 8, ground := Go.Ground.data }, { on := 17, ground := Go.Ground.data }], guard := none }) (v := ?_) rfl (by kernel_rfl) (fun _ _ _ h => h) (Or.inl ⟨by rfl, fun W hW => ?_⟩) hS ?_
  rotate_left
  · obtain ⟨hw1, hw2, hw3, hw4, hw5, hw6, hw7, hw8, hw9⟩ := hW; go_simp; (try go_bits); (try rw [if_pos (by omega)]); (try with_reducible rfl)
  (try simp only [Act.put, List.setIfInBounds_toArray, List.set_cons_succ, List.set_cons_zero])
  refine wpE_last (oi := { dst := some 4, op := Go.Op.assign (Go.Operand.tmp 168), type := 4, pos := "law.go:53", after := #[{ on := 18, ground := Go.Ground.data }, { on := 17, ground := Go.Ground.chain }, { on := 0, ground := Go.Ground.phase }, { on := 1, ground := Go.Ground.phase }, { on := 2, ground := Go.Ground.phase }, { on := 3, ground := Go.Ground.phase }, { on := 4, ground := Go.Ground.phase }, { on := 5, ground := Go.Ground.phase }, { on := 6, ground := Go.Ground.phase }, { on := 7, ground := Go.Ground.phase }, { on := 8, ground := Go.Ground.phase }, { on := 9, ground := Go.Ground.phase }, { on := 10, ground := Go.Ground.phase }, { on := 11, ground := Go.Ground.phase }, { on := 12, ground := Go.Ground.phase }, { on := 13, ground := Go.Ground.phase }, { on := 14, ground := Go.Ground.phase }, { on := 15, ground := Go.Ground.phase }, { on := 16, ground := Go.Ground.phase }, { on := 17, ground := Go.Ground.phase }, { on := 18, ground := Go.Ground.phase }], guard := none }) rfl (by kernel_rfl) (by kernel_rfl) (by rfl) (fun K hK => ?_)
  go_simp; (try go_bits); refine hK _ _ ?_; clear hK K
  clear hS
  have HL := Lib.hid (show (if remOk xd xv then ms ++ [(⟨xd, xv, xg, xq⟩ : To4)] else ms).length ≤ ms.length + 1 by split <;> simp)
  go_wp2
  go_ret
  exact ⟨rfl, own3, _, _, _, _, H3.out.1, H3.out.2.1, H3.out.2.2, Hd.out.2.2.2.2.rem xd xv xg xq, HL.out⟩
end
end Go.Proofs.YtonhlgfgbdiapaaGreat

/- citadellaw07.On.Do, kind by kind (printed by gdo.py). -/
namespace Go.Proofs.YtonhlgfgbdiapaaGreat
set_option linter.unusedVariables false
set_option linter.unusedSimpArgs false
open Go.RowKit
set_option maxRecDepth 100000

section
variable {own : Nat → Nat} {w : World} {p q rp tp p2 t2 r : Nat} {s : Us} {m : Nat → Int} {l : List Tr} {ms : List To4} {xk xd xs xg xq : Int} {xa xv : Nat} {xw : Bool}
set_option maxHeartbeats 2000000 in
theorem do_5 (hA : PA own w p rp tp r s m l) (hD : PD own w q p2 t2 r s m l ms) (hI : PI s l ms) (hms : ms.length < 4398046511103) (hbk : i64B xk) (hbs : i64B xs) (hba : xa < 18446744073709551616) (hbv : xv < 18446744073709551616) (hk : xk % 11 = 5) :
    Calls Tryz.prog 53 #[.agg #[.pointer (some ⟨p, 0, none⟩), .pointer (some ⟨q, 0, none⟩), .pointer (some ⟨rp, 0, none⟩), .pointer (some ⟨p2, 0, none⟩)], .agg #[.int .i64 xk, .int .i64 xd, .int .i64 xs, .int .u64 (xa : Int), .int .u64 (xv : Int), .bool xw, .int .i64 xg, .int .i64 xq]] w fun e w' => e = .returned (.bool true) ∧ ∃ own' s' m' l' ms', Step (fun x => x ≠ 0 ∧ x < 50) own w own' w' ∧ PA own' w' p rp tp r s' m' l' ∧ PD own' w' q p2 t2 r s' m' l' ms' ∧ PI s' l' ms' ∧ ms'.length ≤ ms.length + 1 := by
  have P1 := fun w => place_calls xk 11 w hbk.1 hbk.2 (by decide) (by decide)
  rw [hk] at P1
  have HP := Lib.hid P1
  have hS1 : Step (fun _ => False) own w (ext own w 50) (w.alloc (.cells #[.pointer (some ⟨p, 0, none⟩), .pointer (some ⟨q, 0, none⟩), .pointer (some ⟨rp, 0, none⟩), .pointer (some ⟨p2, 0, none⟩)] 36)) := ⟨(Upd.refl _ _).alloc _, fun b hb => ext_old _ _ _ hb⟩
  have hS2 : Step (fun _ => False) (ext own w 50) (w.alloc (.cells #[.pointer (some ⟨p, 0, none⟩), .pointer (some ⟨q, 0, none⟩), .pointer (some ⟨rp, 0, none⟩), .pointer (some ⟨p2, 0, none⟩)] 36)) (ext (ext own w 50) (w.alloc (.cells #[.pointer (some ⟨p, 0, none⟩), .pointer (some ⟨q, 0, none⟩), .pointer (some ⟨rp, 0, none⟩), .pointer (some ⟨p2, 0, none⟩)] 36)) 50) ((w.alloc (.cells #[.pointer (some ⟨p, 0, none⟩), .pointer (some ⟨q, 0, none⟩), .pointer (some ⟨rp, 0, none⟩), .pointer (some ⟨p2, 0, none⟩)] 36)).alloc (.cells #[.int .i64 xk, .int .i64 xd, .int .i64 xs, .int .u64 (xa : Int), .int .u64 (xv : Int), .bool xw, .int .i64 xg, .int .i64 xq] 49)) := ⟨(Upd.refl _ _).alloc _, fun b hb => ext_old _ _ _ hb⟩
  have hX : DX (ext (ext own w 50) (w.alloc (.cells #[.pointer (some ⟨p, 0, none⟩), .pointer (some ⟨q, 0, none⟩), .pointer (some ⟨rp, 0, none⟩), .pointer (some ⟨p2, 0, none⟩)] 36)) 50) ((w.alloc (.cells #[.pointer (some ⟨p, 0, none⟩), .pointer (some ⟨q, 0, none⟩), .pointer (some ⟨rp, 0, none⟩), .pointer (some ⟨p2, 0, none⟩)] 36)).alloc (.cells #[.int .i64 xk, .int .i64 xd, .int .i64 xs, .int .u64 (xa : Int), .int .u64 (xv : Int), .bool xw, .int .i64 xg, .int .i64 xq] 49)) w.heap.size (w.heap.size + 1) p q rp p2 xk xd xs xa xv xw xg xq := by
    obtain ⟨g1, g2⟩ := hS2.blk (Blk.new w _ _) (ext_new own w 50 (Nat.le_refl _)) (fun h => h)
    have g3 := Blk.new (w.alloc (.cells #[.pointer (some ⟨p, 0, none⟩), .pointer (some ⟨q, 0, none⟩), .pointer (some ⟨rp, 0, none⟩), .pointer (some ⟨p2, 0, none⟩)] 36)) 49 #[.int .i64 xk, .int .i64 xd, .int .i64 xs, .int .u64 (xa : Int), .int .u64 (xv : Int), .bool xw, .int .i64 xg, .int .i64 xq]
    have g4 : ext (ext own w 50) (w.alloc (.cells #[.pointer (some ⟨p, 0, none⟩), .pointer (some ⟨q, 0, none⟩), .pointer (some ⟨rp, 0, none⟩), .pointer (some ⟨p2, 0, none⟩)] 36)) 50 (w.alloc (.cells #[.pointer (some ⟨p, 0, none⟩), .pointer (some ⟨q, 0, none⟩), .pointer (some ⟨rp, 0, none⟩), .pointer (some ⟨p2, 0, none⟩)] 36)).heap.size = 50 := ext_new _ _ _ (Nat.le_refl _)
    rw [World.size_alloc] at g3 g4
    exact ⟨g1, g2, g3, g4⟩
  have hS := hS1.trans hS2
  have hA1 := hA.step hS (fun x h => h.elim)
  have hD1 := hD.step hS (fun x h => h.elim)
  obtain ⟨b0, b1, x1, x2, x3, x4, x5, x6, x7, lb, lx⟩ := hX.cells
  have H0 := Lib.hid (And.intro (hS.mono (C' := fun x => x ≠ 0 ∧ x < 50) (fun x h => h.elim)) (And.intro hA1 (And.intro hD1 (And.intro hX hI))))
  clear P1 hS1 hS2 hX hS hA1 hD1 hA hD hk hI
  go_enter Tryz.func53, Tryz.ntmps53
  go_wp2_with fail
  ((with_reducible refine (HP.out _).mono ?_); rintro e wz ⟨rfl, rfl⟩)
  clear HP
  generalize (ext (ext own w 50) (w.alloc (.cells #[.pointer (some ⟨p, 0, none⟩), .pointer (some ⟨q, 0, none⟩), .pointer (some ⟨rp, 0, none⟩), .pointer (some ⟨p2, 0, none⟩)] 36)) 50) = own1 at *
  generalize ((w.alloc (.cells #[.pointer (some ⟨p, 0, none⟩), .pointer (some ⟨q, 0, none⟩), .pointer (some ⟨rp, 0, none⟩), .pointer (some ⟨p2, 0, none⟩)] 36)).alloc (.cells #[.int .i64 xk, .int .i64 xd, .int .i64 xs, .int .u64 (xa : Int), .int .u64 (xv : Int), .bool xw, .int .i64 xg, .int .i64 xq] 49)) = w1 at *
  generalize hob : w.heap.size = ob at *
  generalize hxb : ob + 1 = xb at *
  cases hn : nextOk s with
  | false =>
    have hnn : nextS s = s := by unfold nextS; rw [hn]; rfl
    have HAc := Lib.hid (io_Next_none H0.out.2.1.u H0.out.2.1.mm hn)
    have HN := Lib.hid hn
    clear hn hnn
    go_wp2_with fail
    ((with_reducible refine HAc.out.mono ?_); rintro e w2 ⟨rfl, own2, hS2, hU2, hM2⟩)
    have hst : Step (fun _ => False) own2 w2 (ext own2 w2 50) (w2.alloc (.cells #[.int .i64 0, .int .i64 0, .int .u64 0] 57)) := ⟨(Upd.refl _ _).alloc _, fun b hb => ext_old _ _ _ hb⟩
    have hP2 := (show PA own2 w2 p rp tp r s m l from ⟨hU2, hM2, H0.out.2.1.t.step hS2 (fun h => h) (fun h => h)⟩).step hst (fun x h => h.elim)
    have hD2 := (H0.out.2.2.1.step hS2 (fun x h => h.elim)).step hst (fun x h => h.elim)
    have hX2 := (H0.out.2.2.2.1.step hS2 (fun h => h)).step hst (fun h => h)
    have hy := Blk.new w2 57 #[.int .i64 0, .int .i64 0, .int .u64 0]
    have HDc := Lib.hid (uref_Next_none hD2.ur HN.out)
    have H2 := Lib.hid (And.intro ((H0.out.1.trans (hS2.mono (fun x h => h.elim))).trans (hst.mono (fun x h => h.elim))) (And.intro hP2 (And.intro hD2 hy)))
    obtain ⟨b0, b1, x1, x2, x3, x4, x5, x6, x7, lb, lx⟩ := hX2.cells
    clear hS2 hU2 hM2 hst hP2 hD2 hX2 HAc hy
    go_wp2_with fail
    generalize w2.heap.size = yb at *
    generalize (w2.alloc (.cells #[.int .i64 0, .int .i64 0, .int .u64 0] 57)) = w3 at *
    generalize ext own2 w2 50 = own3 at *
    ((with_reducible refine HDc.out.mono ?_); rintro e w4 ⟨rfl, hU4⟩)
    have hS4 : Step (fun _ => False) own3 w3 own3 w4 := ⟨hU4, fun _ _ => rfl⟩
    have k1 := H2.out.2.2.2.upd hU4 (fun h => h)
    have y0 := k1.cell 0
    have y1 := k1.cell 1
    have y2 := k1.cell 2
    simp only [List.getElem?_toArray, List.getElem?_cons_zero, List.getElem?_cons_succ] at y0 y1 y2
    have ly := k1.lt
    have hst := step_allocS own3 w4 (.cells #[.int .i64 0, .int .i64 0, .int .u64 0] 57)
    have H3 := Lib.hid (show ∃ own' s' m' l' ms', Step (fun x => x ≠ 0 ∧ x < 50) own w own' (w4.alloc (.cells #[.int .i64 0, .int .i64 0, .int .u64 0] 57)) ∧ PA own' (w4.alloc (.cells #[.int .i64 0, .int .i64 0, .int .u64 0] 57)) p rp tp r s' m' l' ∧ PD own' (w4.alloc (.cells #[.int .i64 0, .int .i64 0, .int .u64 0] 57)) q p2 t2 r s' m' l' ms' ∧ PI s' l' ms' ∧ ms'.length ≤ ms.length + 1 from
      ⟨own3, s, m, l, ms, (H2.out.1.trans (hS4.mono (fun x h => h.elim))).trans (hst.mono (fun x h => h.elim)), (H2.out.2.1.step hS4 (fun x h => h.elim)).step hst (fun x h => h.elim), (H2.out.2.2.1.step hS4 (fun x h => h.elim)).step hst (fun x h => h.elim), H0.out.2.2.2.2, by omega⟩)
    clear hS4 hU4 H2 H0 HDc k1 hst HN
    go_wp2
    go_ret
    exact ⟨rfl, H3.out⟩
  | true =>
    have hAc := io_Next H0.out.2.1.u H0.out.2.1.mm (by decide) H0.out.2.2.2.2.ok hn
    have hDc := fun (own2 : Nat → Nat) (w2 : World) (hd : PD own2 w2 q p2 t2 r s m l ms) => uref_Next hd.ur hd.mr (by decide) (by decide) H0.out.2.2.2.2.ok hn
    obtain ⟨V1, hV1⟩ : ∃ V, num m (nextA s) 4 = V := ⟨_, rfl⟩
    obtain ⟨V2, hV2⟩ : ∃ V, num m (nextA s + 4) 4 = V := ⟨_, rfl⟩
    obtain ⟨V3, hV3⟩ : ∃ V, num m (nextA s + 8) 8 = V := ⟨_, rfl⟩
    rw [hV1, hV2, hV3] at hAc
    simp only [hV1, hV2, hV3] at hDc
    have HAc := Lib.hid hAc
    have HDc0 := Lib.hid hDc
    clear hn hAc hDc hV1 hV2 hV3
    go_wp2_with fail
    ((with_reducible refine HAc.out.mono ?_); rintro e w2 ⟨rfl, own2, hS2, hU2, hM2⟩)
    have hst : Step (fun _ => False) own2 w2 (ext own2 w2 50) (w2.alloc (.cells #[.int .i64 V1, .int .i64 V2, .int .u64 V3] 57)) := ⟨(Upd.refl _ _).alloc _, fun b hb => ext_old _ _ _ hb⟩
    have hP2 := (show PA own2 w2 p rp tp r (nextS s) m l from ⟨hU2, hM2, H0.out.2.1.t.step hS2 (by decide) (by decide)⟩).step hst (fun x h => h.elim)
    have hD2 := (H0.out.2.2.1.step hS2 (by omega)).step hst (fun x h => h.elim)
    have hX2 := (H0.out.2.2.2.1.step hS2 (by decide)).step hst (fun h => h)
    have hy := Blk.new w2 57 #[.int .i64 V1, .int .i64 V2, .int .u64 V3]
    have hyo : ext own2 w2 50 w2.heap.size = 50 := ext_new _ _ _ (Nat.le_refl _)
    have HDc := Lib.hid (HDc0.out _ _ hD2)
    have H2 := Lib.hid (And.intro ((H0.out.1.trans (hS2.mono (fun x h => by omega))).trans (hst.mono (fun x h => h.elim))) (And.intro hP2 (And.intro hD2 (And.intro hy hyo))))
    obtain ⟨b0, b1, x1, x2, x3, x4, x5, x6, x7, lb, lx⟩ := hX2.cells
    clear hS2 hU2 hM2 hst hP2 hD2 hX2 HAc hy hyo HDc0
    go_wp2_with fail
    generalize w2.heap.size = yb at *
    generalize (w2.alloc (.cells #[.int .i64 V1, .int .i64 V2, .int .u64 V3] 57)) = w3 at *
    generalize ext own2 w2 50 = own3 at *
    ((with_reducible refine HDc.out.mono ?_); rintro e w4 ⟨rfl, own4, hS4, hU4, hM4⟩)
    obtain ⟨k1, k2⟩ := hS4.blk H2.out.2.2.2.1 H2.out.2.2.2.2 (by decide)
    have y0 := k1.cell 0
    have y1 := k1.cell 1
    have y2 := k1.cell 2
    simp only [List.getElem?_toArray, List.getElem?_cons_zero, List.getElem?_cons_succ] at y0 y1 y2
    have ly := k1.lt
    have hst := step_allocS own4 w4 (.cells #[.int .i64 V1, .int .i64 V2, .int .u64 V3] 57)
    have H3 := Lib.hid (show ∃ own' s' m' l' ms', Step (fun x => x ≠ 0 ∧ x < 50) own w own' (w4.alloc (.cells #[.int .i64 V1, .int .i64 V2, .int .u64 V3] 57)) ∧ PA own' (w4.alloc (.cells #[.int .i64 V1, .int .i64 V2, .int .u64 V3] 57)) p rp tp r s' m' l' ∧ PD own' (w4.alloc (.cells #[.int .i64 V1, .int .i64 V2, .int .u64 V3] 57)) q p2 t2 r s' m' l' ms' ∧ PI s' l' ms' ∧ ms'.length ≤ ms.length + 1 from
      ⟨own4, nextS s, m, l, ms, (H2.out.1.trans (hS4.mono (fun x h => by omega))).trans (hst.mono (fun x h => h.elim)), (H2.out.2.1.step hS4 (by omega)).step hst (fun x h => h.elim), (show PD own4 w4 q p2 t2 r (nextS s) m l ms from ⟨hM4, hU4, H2.out.2.2.1.tr.step hS4 (by decide) (by decide)⟩).step hst (fun x h => h.elim), H0.out.2.2.2.2.next, by omega⟩)
    clear hS4 hU4 hM4 H2 H0 HDc k1 k2 hst
    go_wp2
    go_ret
    exact ⟨rfl, H3.out⟩
set_option maxHeartbeats 2000000 in
theorem do_6 (hA : PA own w p rp tp r s m l) (hD : PD own w q p2 t2 r s m l ms) (hI : PI s l ms) (hms : ms.length < 4398046511103) (hbk : i64B xk) (hbs : i64B xs) (hba : xa < 18446744073709551616) (hbv : xv < 18446744073709551616) (hk : xk % 11 = 6) :
    Calls Tryz.prog 53 #[.agg #[.pointer (some ⟨p, 0, none⟩), .pointer (some ⟨q, 0, none⟩), .pointer (some ⟨rp, 0, none⟩), .pointer (some ⟨p2, 0, none⟩)], .agg #[.int .i64 xk, .int .i64 xd, .int .i64 xs, .int .u64 (xa : Int), .int .u64 (xv : Int), .bool xw, .int .i64 xg, .int .i64 xq]] w fun e w' => e = .returned (.bool true) ∧ ∃ own' s' m' l' ms', Step (fun x => x ≠ 0 ∧ x < 50) own w own' w' ∧ PA own' w' p rp tp r s' m' l' ∧ PD own' w' q p2 t2 r s' m' l' ms' ∧ PI s' l' ms' ∧ ms'.length ≤ ms.length + 1 := by
  have P1 := fun w => place_calls xk 11 w hbk.1 hbk.2 (by decide) (by decide)
  rw [hk] at P1
  have HP := Lib.hid P1
  have hS1 : Step (fun _ => False) own w (ext own w 50) (w.alloc (.cells #[.pointer (some ⟨p, 0, none⟩), .pointer (some ⟨q, 0, none⟩), .pointer (some ⟨rp, 0, none⟩), .pointer (some ⟨p2, 0, none⟩)] 36)) := ⟨(Upd.refl _ _).alloc _, fun b hb => ext_old _ _ _ hb⟩
  have hS2 : Step (fun _ => False) (ext own w 50) (w.alloc (.cells #[.pointer (some ⟨p, 0, none⟩), .pointer (some ⟨q, 0, none⟩), .pointer (some ⟨rp, 0, none⟩), .pointer (some ⟨p2, 0, none⟩)] 36)) (ext (ext own w 50) (w.alloc (.cells #[.pointer (some ⟨p, 0, none⟩), .pointer (some ⟨q, 0, none⟩), .pointer (some ⟨rp, 0, none⟩), .pointer (some ⟨p2, 0, none⟩)] 36)) 50) ((w.alloc (.cells #[.pointer (some ⟨p, 0, none⟩), .pointer (some ⟨q, 0, none⟩), .pointer (some ⟨rp, 0, none⟩), .pointer (some ⟨p2, 0, none⟩)] 36)).alloc (.cells #[.int .i64 xk, .int .i64 xd, .int .i64 xs, .int .u64 (xa : Int), .int .u64 (xv : Int), .bool xw, .int .i64 xg, .int .i64 xq] 49)) := ⟨(Upd.refl _ _).alloc _, fun b hb => ext_old _ _ _ hb⟩
  have hX : DX (ext (ext own w 50) (w.alloc (.cells #[.pointer (some ⟨p, 0, none⟩), .pointer (some ⟨q, 0, none⟩), .pointer (some ⟨rp, 0, none⟩), .pointer (some ⟨p2, 0, none⟩)] 36)) 50) ((w.alloc (.cells #[.pointer (some ⟨p, 0, none⟩), .pointer (some ⟨q, 0, none⟩), .pointer (some ⟨rp, 0, none⟩), .pointer (some ⟨p2, 0, none⟩)] 36)).alloc (.cells #[.int .i64 xk, .int .i64 xd, .int .i64 xs, .int .u64 (xa : Int), .int .u64 (xv : Int), .bool xw, .int .i64 xg, .int .i64 xq] 49)) w.heap.size (w.heap.size + 1) p q rp p2 xk xd xs xa xv xw xg xq := by
    obtain ⟨g1, g2⟩ := hS2.blk (Blk.new w _ _) (ext_new own w 50 (Nat.le_refl _)) (fun h => h)
    have g3 := Blk.new (w.alloc (.cells #[.pointer (some ⟨p, 0, none⟩), .pointer (some ⟨q, 0, none⟩), .pointer (some ⟨rp, 0, none⟩), .pointer (some ⟨p2, 0, none⟩)] 36)) 49 #[.int .i64 xk, .int .i64 xd, .int .i64 xs, .int .u64 (xa : Int), .int .u64 (xv : Int), .bool xw, .int .i64 xg, .int .i64 xq]
    have g4 : ext (ext own w 50) (w.alloc (.cells #[.pointer (some ⟨p, 0, none⟩), .pointer (some ⟨q, 0, none⟩), .pointer (some ⟨rp, 0, none⟩), .pointer (some ⟨p2, 0, none⟩)] 36)) 50 (w.alloc (.cells #[.pointer (some ⟨p, 0, none⟩), .pointer (some ⟨q, 0, none⟩), .pointer (some ⟨rp, 0, none⟩), .pointer (some ⟨p2, 0, none⟩)] 36)).heap.size = 50 := ext_new _ _ _ (Nat.le_refl _)
    rw [World.size_alloc] at g3 g4
    exact ⟨g1, g2, g3, g4⟩
  have hS := hS1.trans hS2
  have hA1 := hA.step hS (fun x h => h.elim)
  have hD1 := hD.step hS (fun x h => h.elim)
  obtain ⟨b0, b1, x1, x2, x3, x4, x5, x6, x7, lb, lx⟩ := hX.cells
  have H0 := Lib.hid (And.intro (hS.mono (C' := fun x => x ≠ 0 ∧ x < 50) (fun x h => h.elim)) (And.intro hA1 (And.intro hD1 (And.intro hX hI))))
  clear P1 hS1 hS2 hX hS hA1 hD1 hA hD hk hI
  go_enter Tryz.func53, Tryz.ntmps53
  go_wp2_with fail
  ((with_reducible refine (HP.out _).mono ?_); rintro e wz ⟨rfl, rfl⟩)
  clear HP
  generalize (ext (ext own w 50) (w.alloc (.cells #[.pointer (some ⟨p, 0, none⟩), .pointer (some ⟨q, 0, none⟩), .pointer (some ⟨rp, 0, none⟩), .pointer (some ⟨p2, 0, none⟩)] 36)) 50) = own1 at *
  generalize ((w.alloc (.cells #[.pointer (some ⟨p, 0, none⟩), .pointer (some ⟨q, 0, none⟩), .pointer (some ⟨rp, 0, none⟩), .pointer (some ⟨p2, 0, none⟩)] 36)).alloc (.cells #[.int .i64 xk, .int .i64 xd, .int .i64 xs, .int .u64 (xa : Int), .int .u64 (xv : Int), .bool xw, .int .i64 xg, .int .i64 xq] 49)) = w1 at *
  generalize hob : w.heap.size = ob at *
  generalize hxb : ob + 1 = xb at *
  have HAc := Lib.hid (io_Clear H0.out.2.1.u)
  go_wp2_with fail
  ((with_reducible refine HAc.out.mono ?_); rintro e w2 ⟨rfl, hS2, hU2⟩)
  have hP2 : PA own1 w2 p rp tp r { s with ov := false } m l := ⟨hU2, H0.out.2.1.mm.step hS2 (by decide), H0.out.2.1.t.step hS2 (by decide) (by decide)⟩
  have hD2 := H0.out.2.2.1.step hS2 (by omega)
  have hX2 := H0.out.2.2.2.1.step hS2 (by decide)
  obtain ⟨r2, r1⟩ := hD2.ur.put (s' := { s with ov := false }) (by decide) 15 (.bool false) (fun v => rfl)
  have HF := Lib.hid (show ∃ own' s' m' l' ms', Step (fun x => x ≠ 0 ∧ x < 50) own w own' (w2.setCell ⟨q, 15, none⟩ (.bool false)) ∧ PA own' (w2.setCell ⟨q, 15, none⟩ (.bool false)) p rp tp r s' m' l' ∧ PD own' (w2.setCell ⟨q, 15, none⟩ (.bool false)) q p2 t2 r s' m' l' ms' ∧ PI s' l' ms' ∧ ms'.length ≤ ms.length + 1 from
    ⟨own1, _, _, _, ms, (H0.out.1.trans (hS2.mono (fun x h => by omega))).trans (r2.mono (fun x h => by omega)), hP2.step r2 (by omega), ⟨hD2.mr.step r2 (by decide), r1, hD2.tr.step r2 (by decide) (by decide)⟩, H0.out.2.2.2.2.clear, by omega⟩)
  obtain ⟨b0, b1, x1, x2, x3, x4, x5, x6, x7, lb, lx⟩ := hX2.cells
  obtain ⟨_, _, _, _, _, _, q15, lq⟩ := hD2.ur.cells
  have zq := hD2.ur.froz 15
  clear hS2 hU2 hP2 hD2 hX2 r1 r2 HAc H0
  go_wp2
  go_ret
  exact ⟨rfl, HF.out⟩
end
end Go.Proofs.YtonhlgfgbdiapaaGreat

/- citadellaw07.On.Do, kind by kind (printed by gdo.py). -/
namespace Go.Proofs.YtonhlgfgbdiapaaGreat
set_option linter.unusedVariables false
set_option linter.unusedSimpArgs false
open Go.RowKit
set_option maxRecDepth 100000

section
variable {own : Nat → Nat} {w : World} {p q rp tp p2 t2 r : Nat} {s : Us} {m : Nat → Int} {l : List Tr} {ms : List To4} {xk xd xs xg xq : Int} {xa xv : Nat} {xw : Bool}
set_option maxHeartbeats 2000000 in
theorem do_7 (hA : PA own w p rp tp r s m l) (hD : PD own w q p2 t2 r s m l ms) (hI : PI s l ms) (hms : ms.length < 4398046511103) (hbk : i64B xk) (hbs : i64B xs) (hba : xa < 18446744073709551616) (hbv : xv < 18446744073709551616) (hk : xk % 11 = 7) :
    Calls Tryz.prog 53 #[.agg #[.pointer (some ⟨p, 0, none⟩), .pointer (some ⟨q, 0, none⟩), .pointer (some ⟨rp, 0, none⟩), .pointer (some ⟨p2, 0, none⟩)], .agg #[.int .i64 xk, .int .i64 xd, .int .i64 xs, .int .u64 (xa : Int), .int .u64 (xv : Int), .bool xw, .int .i64 xg, .int .i64 xq]] w fun e w' => e = .returned (.bool true) ∧ ∃ own' s' m' l' ms', Step (fun x => x ≠ 0 ∧ x < 50) own w own' w' ∧ PA own' w' p rp tp r s' m' l' ∧ PD own' w' q p2 t2 r s' m' l' ms' ∧ PI s' l' ms' ∧ ms'.length ≤ ms.length + 1 := by
  have P1 := fun w => place_calls xk 11 w hbk.1 hbk.2 (by decide) (by decide)
  rw [hk] at P1
  have HP := Lib.hid P1
  have hS1 : Step (fun _ => False) own w (ext own w 50) (w.alloc (.cells #[.pointer (some ⟨p, 0, none⟩), .pointer (some ⟨q, 0, none⟩), .pointer (some ⟨rp, 0, none⟩), .pointer (some ⟨p2, 0, none⟩)] 36)) := ⟨(Upd.refl _ _).alloc _, fun b hb => ext_old _ _ _ hb⟩
  have hS2 : Step (fun _ => False) (ext own w 50) (w.alloc (.cells #[.pointer (some ⟨p, 0, none⟩), .pointer (some ⟨q, 0, none⟩), .pointer (some ⟨rp, 0, none⟩), .pointer (some ⟨p2, 0, none⟩)] 36)) (ext (ext own w 50) (w.alloc (.cells #[.pointer (some ⟨p, 0, none⟩), .pointer (some ⟨q, 0, none⟩), .pointer (some ⟨rp, 0, none⟩), .pointer (some ⟨p2, 0, none⟩)] 36)) 50) ((w.alloc (.cells #[.pointer (some ⟨p, 0, none⟩), .pointer (some ⟨q, 0, none⟩), .pointer (some ⟨rp, 0, none⟩), .pointer (some ⟨p2, 0, none⟩)] 36)).alloc (.cells #[.int .i64 xk, .int .i64 xd, .int .i64 xs, .int .u64 (xa : Int), .int .u64 (xv : Int), .bool xw, .int .i64 xg, .int .i64 xq] 49)) := ⟨(Upd.refl _ _).alloc _, fun b hb => ext_old _ _ _ hb⟩
  have hX : DX (ext (ext own w 50) (w.alloc (.cells #[.pointer (some ⟨p, 0, none⟩), .pointer (some ⟨q, 0, none⟩), .pointer (some ⟨rp, 0, none⟩), .pointer (some ⟨p2, 0, none⟩)] 36)) 50) ((w.alloc (.cells #[.pointer (some ⟨p, 0, none⟩), .pointer (some ⟨q, 0, none⟩), .pointer (some ⟨rp, 0, none⟩), .pointer (some ⟨p2, 0, none⟩)] 36)).alloc (.cells #[.int .i64 xk, .int .i64 xd, .int .i64 xs, .int .u64 (xa : Int), .int .u64 (xv : Int), .bool xw, .int .i64 xg, .int .i64 xq] 49)) w.heap.size (w.heap.size + 1) p q rp p2 xk xd xs xa xv xw xg xq := by
    obtain ⟨g1, g2⟩ := hS2.blk (Blk.new w _ _) (ext_new own w 50 (Nat.le_refl _)) (fun h => h)
    have g3 := Blk.new (w.alloc (.cells #[.pointer (some ⟨p, 0, none⟩), .pointer (some ⟨q, 0, none⟩), .pointer (some ⟨rp, 0, none⟩), .pointer (some ⟨p2, 0, none⟩)] 36)) 49 #[.int .i64 xk, .int .i64 xd, .int .i64 xs, .int .u64 (xa : Int), .int .u64 (xv : Int), .bool xw, .int .i64 xg, .int .i64 xq]
    have g4 : ext (ext own w 50) (w.alloc (.cells #[.pointer (some ⟨p, 0, none⟩), .pointer (some ⟨q, 0, none⟩), .pointer (some ⟨rp, 0, none⟩), .pointer (some ⟨p2, 0, none⟩)] 36)) 50 (w.alloc (.cells #[.pointer (some ⟨p, 0, none⟩), .pointer (some ⟨q, 0, none⟩), .pointer (some ⟨rp, 0, none⟩), .pointer (some ⟨p2, 0, none⟩)] 36)).heap.size = 50 := ext_new _ _ _ (Nat.le_refl _)
    rw [World.size_alloc] at g3 g4
    exact ⟨g1, g2, g3, g4⟩
  have hS := hS1.trans hS2
  have hA1 := hA.step hS (fun x h => h.elim)
  have hD1 := hD.step hS (fun x h => h.elim)
  obtain ⟨b0, b1, x1, x2, x3, x4, x5, x6, x7, lb, lx⟩ := hX.cells
  have H0 := Lib.hid (And.intro (hS.mono (C' := fun x => x ≠ 0 ∧ x < 50) (fun x h => h.elim)) (And.intro hA1 (And.intro hD1 (And.intro hX hI))))
  clear P1 hS1 hS2 hX hS hA1 hD1 hA hD hk hI
  go_enter Tryz.func53, Tryz.ntmps53
  go_wp2_with fail
  ((with_reducible refine (HP.out _).mono ?_); rintro e wz ⟨rfl, rfl⟩)
  clear HP
  generalize (ext (ext own w 50) (w.alloc (.cells #[.pointer (some ⟨p, 0, none⟩), .pointer (some ⟨q, 0, none⟩), .pointer (some ⟨rp, 0, none⟩), .pointer (some ⟨p2, 0, none⟩)] 36)) 50) = own1 at *
  generalize ((w.alloc (.cells #[.pointer (some ⟨p, 0, none⟩), .pointer (some ⟨q, 0, none⟩), .pointer (some ⟨rp, 0, none⟩), .pointer (some ⟨p2, 0, none⟩)] 36)).alloc (.cells #[.int .i64 xk, .int .i64 xd, .int .i64 xs, .int .u64 (xa : Int), .int .u64 (xv : Int), .bool xw, .int .i64 xg, .int .i64 xq] 49)) = w1 at *
  generalize hob : w.heap.size = ob at *
  generalize hxb : ob + 1 = xb at *
  have HAc := Lib.hid (io_Invalidate H0.out.2.1.u H0.out.2.1.t (by decide) xd)
  go_wp2_with fail
  ((with_reducible refine HAc.out.mono ?_); rintro e w2 ⟨rfl, own2, hS2, hT2⟩)
  have hP2 : PA own2 w2 p rp tp r s m (flushT l xd) := ⟨H0.out.2.1.u.step hS2 (by decide), H0.out.2.1.mm.step hS2 (by decide), hT2⟩
  have hD2 := H0.out.2.2.1.step hS2 (by omega)
  have hX2 := H0.out.2.2.2.1.step hS2 (by decide)
  have HDS := Lib.hid (hX2.dS hD2)
  have hdr : Step (fun _ => False) own2 w2 own2 w2.drew := (Step.refl _ _ _).drew
  have hD3 := hD2.step hdr (fun x h => h.elim)
  have HB := Lib.hid (tref_Flush hD3.tr (by decide) xd)
  have H2 := Lib.hid (And.intro ((H0.out.1.trans (hS2.mono (fun x h => by omega))).trans (hdr.mono (fun x h => h.elim))) (And.intro (hP2.step hdr (fun x h => h.elim)) hD3))
  clear hS2 hT2 hP2 hD2 hX2 hdr hD3 HAc b0 b1 x1 x2 x3 x4 x5 x6 x7 lb lx
  go_wp2_with fail
  refine wpE_region (S := dS ob xb q p t2 xd xs xa xv xg xq) (s := 7) (by kernel_rfl) ?_
  have hS : (dS ob xb q p t2 xd xs xa xv xg xq) _ := HDS.out
  refine wpE_take (i := 0) (oi := { dst := some 207, op := Go.Op.fieldAddr 36 (Go.Operand.tmp 2) 1, type := 0, pos := "law.go:63", after := #[], guard := none }) (v := ?_) rfl (by kernel_rfl) (fun _ _ _ h => h) (Or.inl ⟨by rfl, fun W hW => ?_⟩) hS ?_
  rotate_left
  · obtain ⟨hw1, hw2, hw3, hw4, hw5, hw6, hw7, hw8, hw9⟩ := hW; go_simp; (try go_bits); (try rw [if_pos (by omega)]); (try with_reducible rfl)
  (try simp only [Act.put, List.setIfInBounds_toArray, List.set_cons_succ, List.set_cons_zero])
  refine wpE_take (i := 1) (oi := { dst := some 208, op := Go.Op.load 30 (Go.Operand.tmp 207), type := 30, pos := "law.go:63", after := #[{ on := 0, ground := Go.Ground.data }], guard := none }) (v := ?_) rfl (by kernel_rfl) (fun _ _ _ h => h) (Or.inl ⟨by rfl, fun W hW => ?_⟩) hS ?_
  rotate_left
  · obtain ⟨hw1, hw2, hw3, hw4, hw5, hw6, hw7, hw8, hw9⟩ := hW; go_simp; (try go_bits); (try rw [if_pos (by omega)]); (try with_reducible rfl)
  (try simp only [Act.put, List.setIfInBounds_toArray, List.set_cons_succ, List.set_cons_zero])
  refine wpE_take (i := 2) (oi := { dst := some 209, op := Go.Op.nilCheck (Go.Operand.tmp 208), type := 0, pos := "law.go:63", after := #[{ on := 1, ground := Go.Ground.data }], guard := none }) (v := ?_) rfl (by kernel_rfl) (fun _ _ _ h => h) (Or.inl ⟨by rfl, fun W hW => ?_⟩) hS ?_
  rotate_left
  · obtain ⟨hw1, hw2, hw3, hw4, hw5, hw6, hw7, hw8, hw9⟩ := hW; go_simp; (try go_bits); (try rw [if_pos (by omega)]); (try with_reducible rfl)
  (try simp only [Act.put, List.setIfInBounds_toArray, List.set_cons_succ, List.set_cons_zero])
  refine wpE_take (i := 3) (oi := { dst := some 210, op := Go.Op.fieldAddr 87 (Go.Operand.tmp 209) 1, type := 0, pos := "law.go:63", after := #[{ on := 2, ground := Go.Ground.data }], guard := none }) (v := ?_) rfl (by kernel_rfl) (fun _ _ _ h => h) (Or.inl ⟨by rfl, fun W hW => ?_⟩) hS ?_
  rotate_left
  · obtain ⟨hw1, hw2, hw3, hw4, hw5, hw6, hw7, hw8, hw9⟩ := hW; go_simp; (try go_bits); (try rw [if_pos (by omega)]); (try with_reducible rfl)
  (try simp only [Act.put, List.setIfInBounds_toArray, List.set_cons_succ, List.set_cons_zero])
  refine wpE_take (i := 4) (oi := { dst := some 211, op := Go.Op.load 83 (Go.Operand.tmp 210), type := 83, pos := "law.go:63", after := #[{ on := 3, ground := Go.Ground.data }], guard := none }) (v := ?_) rfl (by kernel_rfl) (fun _ _ _ h => h) (Or.inl ⟨by rfl, fun W hW => ?_⟩) hS ?_
  rotate_left
  · obtain ⟨hw1, hw2, hw3, hw4, hw5, hw6, hw7, hw8, hw9⟩ := hW; go_simp; (try go_bits); (try rw [if_pos (by omega)]); (try with_reducible rfl)
  (try simp only [Act.put, List.setIfInBounds_toArray, List.set_cons_succ, List.set_cons_zero])
  refine wpE_take (i := 5) (oi := { dst := some 212, op := Go.Op.fieldAddr 49 (Go.Operand.tmp 3) 1, type := 0, pos := "law.go:63", after := #[], guard := none }) (v := ?_) rfl (by kernel_rfl) (fun _ _ _ h => h) (Or.inl ⟨by rfl, fun W hW => ?_⟩) hS ?_
  rotate_left
  · obtain ⟨hw1, hw2, hw3, hw4, hw5, hw6, hw7, hw8, hw9⟩ := hW; go_simp; (try go_bits); (try rw [if_pos (by omega)]); (try with_reducible rfl)
  (try simp only [Act.put, List.setIfInBounds_toArray, List.set_cons_succ, List.set_cons_zero])
  refine wpE_take (i := 6) (oi := { dst := some 213, op := Go.Op.load 3 (Go.Operand.tmp 212), type := 3, pos := "law.go:63", after := #[{ on := 5, ground := Go.Ground.data }], guard := none }) (v := ?_) rfl (by kernel_rfl) (fun _ _ _ h => h) (Or.inl ⟨by rfl, fun W hW => ?_⟩) hS ?_
  rotate_left
  · obtain ⟨hw1, hw2, hw3, hw4, hw5, hw6, hw7, hw8, hw9⟩ := hW; go_simp; (try go_bits); (try rw [if_pos (by omega)]); (try with_reducible rfl)
  (try simp only [Act.put, List.setIfInBounds_toArray, List.set_cons_succ, List.set_cons_zero])
  refine wpE_last (oi := { dst := some 214, op := Go.Op.call { callee := Go.Callee.value (Go.Operand.func 89), args := #[Go.Operand.tmp 211, Go.Operand.tmp 213], argTypes := #[83, 3] }, type := 0, pos := "law.go:63", after := #[{ on := 4, ground := Go.Ground.data }, { on := 6, ground := Go.Ground.data }], guard := none }) rfl (by kernel_rfl) (by kernel_rfl) (by rfl) (fun K hK => ?_)
  go_simp; refine HB.out.mono ?_; rintro e w3 ⟨rfl, own3, hS3, hT3⟩
  have H3 := Lib.hid (show ∃ own' s' m' l' ms', Step (fun x => x ≠ 0 ∧ x < 50) own w own' w3 ∧ PA own' w3 p rp tp r s' m' l' ∧ PD own' w3 q p2 t2 r s' m' l' ms' ∧ PI s' l' ms' ∧ ms'.length ≤ ms.length + 1 from ⟨own3, s, m, flushT l xd, ms, H2.out.1.trans (hS3.mono (fun x h => by omega)), H2.out.2.1.step hS3 (by omega), ⟨H2.out.2.2.mr.step hS3 (by decide), H2.out.2.2.ur.step hS3 (by decide) (by decide), hT3⟩, ⟨H0.out.2.2.2.2.ok, H0.out.2.2.2.2.el.flush xd, H0.out.2.2.2.2.uq.flushT xd, H0.out.2.2.2.2.rel⟩, by omega⟩)
  clear hS3 hT3 HB H2
  refine hK _ _ ?_; clear hK K
  clear HDS
  go_wp2
  go_ret
  exact ⟨rfl, H3.out⟩
set_option maxHeartbeats 2000000 in
theorem do_8 (hA : PA own w p rp tp r s m l) (hD : PD own w q p2 t2 r s m l ms) (hI : PI s l ms) (hms : ms.length < 4398046511103) (hbk : i64B xk) (hbs : i64B xs) (hba : xa < 18446744073709551616) (hbv : xv < 18446744073709551616) (hk : xk % 11 = 8) :
    Calls Tryz.prog 53 #[.agg #[.pointer (some ⟨p, 0, none⟩), .pointer (some ⟨q, 0, none⟩), .pointer (some ⟨rp, 0, none⟩), .pointer (some ⟨p2, 0, none⟩)], .agg #[.int .i64 xk, .int .i64 xd, .int .i64 xs, .int .u64 (xa : Int), .int .u64 (xv : Int), .bool xw, .int .i64 xg, .int .i64 xq]] w fun e w' => e = .returned (.bool true) ∧ ∃ own' s' m' l' ms', Step (fun x => x ≠ 0 ∧ x < 50) own w own' w' ∧ PA own' w' p rp tp r s' m' l' ∧ PD own' w' q p2 t2 r s' m' l' ms' ∧ PI s' l' ms' ∧ ms'.length ≤ ms.length + 1 := by
  have P1 := fun w => place_calls xk 11 w hbk.1 hbk.2 (by decide) (by decide)
  rw [hk] at P1
  have HP := Lib.hid P1
  have hS1 : Step (fun _ => False) own w (ext own w 50) (w.alloc (.cells #[.pointer (some ⟨p, 0, none⟩), .pointer (some ⟨q, 0, none⟩), .pointer (some ⟨rp, 0, none⟩), .pointer (some ⟨p2, 0, none⟩)] 36)) := ⟨(Upd.refl _ _).alloc _, fun b hb => ext_old _ _ _ hb⟩
  have hS2 : Step (fun _ => False) (ext own w 50) (w.alloc (.cells #[.pointer (some ⟨p, 0, none⟩), .pointer (some ⟨q, 0, none⟩), .pointer (some ⟨rp, 0, none⟩), .pointer (some ⟨p2, 0, none⟩)] 36)) (ext (ext own w 50) (w.alloc (.cells #[.pointer (some ⟨p, 0, none⟩), .pointer (some ⟨q, 0, none⟩), .pointer (some ⟨rp, 0, none⟩), .pointer (some ⟨p2, 0, none⟩)] 36)) 50) ((w.alloc (.cells #[.pointer (some ⟨p, 0, none⟩), .pointer (some ⟨q, 0, none⟩), .pointer (some ⟨rp, 0, none⟩), .pointer (some ⟨p2, 0, none⟩)] 36)).alloc (.cells #[.int .i64 xk, .int .i64 xd, .int .i64 xs, .int .u64 (xa : Int), .int .u64 (xv : Int), .bool xw, .int .i64 xg, .int .i64 xq] 49)) := ⟨(Upd.refl _ _).alloc _, fun b hb => ext_old _ _ _ hb⟩
  have hX : DX (ext (ext own w 50) (w.alloc (.cells #[.pointer (some ⟨p, 0, none⟩), .pointer (some ⟨q, 0, none⟩), .pointer (some ⟨rp, 0, none⟩), .pointer (some ⟨p2, 0, none⟩)] 36)) 50) ((w.alloc (.cells #[.pointer (some ⟨p, 0, none⟩), .pointer (some ⟨q, 0, none⟩), .pointer (some ⟨rp, 0, none⟩), .pointer (some ⟨p2, 0, none⟩)] 36)).alloc (.cells #[.int .i64 xk, .int .i64 xd, .int .i64 xs, .int .u64 (xa : Int), .int .u64 (xv : Int), .bool xw, .int .i64 xg, .int .i64 xq] 49)) w.heap.size (w.heap.size + 1) p q rp p2 xk xd xs xa xv xw xg xq := by
    obtain ⟨g1, g2⟩ := hS2.blk (Blk.new w _ _) (ext_new own w 50 (Nat.le_refl _)) (fun h => h)
    have g3 := Blk.new (w.alloc (.cells #[.pointer (some ⟨p, 0, none⟩), .pointer (some ⟨q, 0, none⟩), .pointer (some ⟨rp, 0, none⟩), .pointer (some ⟨p2, 0, none⟩)] 36)) 49 #[.int .i64 xk, .int .i64 xd, .int .i64 xs, .int .u64 (xa : Int), .int .u64 (xv : Int), .bool xw, .int .i64 xg, .int .i64 xq]
    have g4 : ext (ext own w 50) (w.alloc (.cells #[.pointer (some ⟨p, 0, none⟩), .pointer (some ⟨q, 0, none⟩), .pointer (some ⟨rp, 0, none⟩), .pointer (some ⟨p2, 0, none⟩)] 36)) 50 (w.alloc (.cells #[.pointer (some ⟨p, 0, none⟩), .pointer (some ⟨q, 0, none⟩), .pointer (some ⟨rp, 0, none⟩), .pointer (some ⟨p2, 0, none⟩)] 36)).heap.size = 50 := ext_new _ _ _ (Nat.le_refl _)
    rw [World.size_alloc] at g3 g4
    exact ⟨g1, g2, g3, g4⟩
  have hS := hS1.trans hS2
  have hA1 := hA.step hS (fun x h => h.elim)
  have hD1 := hD.step hS (fun x h => h.elim)
  obtain ⟨b0, b1, x1, x2, x3, x4, x5, x6, x7, lb, lx⟩ := hX.cells
  have H0 := Lib.hid (And.intro (hS.mono (C' := fun x => x ≠ 0 ∧ x < 50) (fun x h => h.elim)) (And.intro hA1 (And.intro hD1 (And.intro hX hI))))
  clear P1 hS1 hS2 hX hS hA1 hD1 hA hD hk hI
  go_enter Tryz.func53, Tryz.ntmps53
  go_wp2_with fail
  ((with_reducible refine (HP.out _).mono ?_); rintro e wz ⟨rfl, rfl⟩)
  clear HP
  generalize (ext (ext own w 50) (w.alloc (.cells #[.pointer (some ⟨p, 0, none⟩), .pointer (some ⟨q, 0, none⟩), .pointer (some ⟨rp, 0, none⟩), .pointer (some ⟨p2, 0, none⟩)] 36)) 50) = own1 at *
  generalize ((w.alloc (.cells #[.pointer (some ⟨p, 0, none⟩), .pointer (some ⟨q, 0, none⟩), .pointer (some ⟨rp, 0, none⟩), .pointer (some ⟨p2, 0, none⟩)] 36)).alloc (.cells #[.int .i64 xk, .int .i64 xd, .int .i64 xs, .int .u64 (xa : Int), .int .u64 (xv : Int), .bool xw, .int .i64 xg, .int .i64 xq] 49)) = w1 at *
  generalize hob : w.heap.size = ob at *
  generalize hxb : ob + 1 = xb at *
  have HAc := Lib.hid (io_InvPage H0.out.2.1.u H0.out.2.1.t (by decide) xd xa)
  go_wp2_with fail
  ((with_reducible refine HAc.out.mono ?_); rintro e w2 ⟨rfl, own2, hS2, hT2⟩)
  have hP2 : PA own2 w2 p rp tp r s m (flushP l xd xa) := ⟨H0.out.2.1.u.step hS2 (by decide), H0.out.2.1.mm.step hS2 (by decide), hT2⟩
  have hD2 := H0.out.2.2.1.step hS2 (by omega)
  have hX2 := H0.out.2.2.2.1.step hS2 (by decide)
  have HDS := Lib.hid (hX2.dS hD2)
  have hdr : Step (fun _ => False) own2 w2 own2 w2.drew := (Step.refl _ _ _).drew
  have hD3 := hD2.step hdr (fun x h => h.elim)
  have HB := Lib.hid (tref_FlushPage hD3.tr (by decide) xd xa)
  have H2 := Lib.hid (And.intro ((H0.out.1.trans (hS2.mono (fun x h => by omega))).trans (hdr.mono (fun x h => h.elim))) (And.intro (hP2.step hdr (fun x h => h.elim)) hD3))
  clear hS2 hT2 hP2 hD2 hX2 hdr hD3 HAc b0 b1 x1 x2 x3 x4 x5 x6 x7 lb lx
  go_wp2_with fail
  refine wpE_region (S := dS ob xb q p t2 xd xs xa xv xg xq) (s := 9) (by kernel_rfl) ?_
  have hS : (dS ob xb q p t2 xd xs xa xv xg xq) _ := HDS.out
  refine wpE_take (i := 0) (oi := { dst := some 224, op := Go.Op.fieldAddr 36 (Go.Operand.tmp 2) 1, type := 0, pos := "law.go:66", after := #[], guard := none }) (v := ?_) rfl (by kernel_rfl) (fun _ _ _ h => h) (Or.inl ⟨by rfl, fun W hW => ?_⟩) hS ?_
  rotate_left
  · obtain ⟨hw1, hw2, hw3, hw4, hw5, hw6, hw7, hw8, hw9⟩ := hW; go_simp; (try go_bits); (try rw [if_pos (by omega)]); (try with_reducible rfl)
  (try simp only [Act.put, List.setIfInBounds_toArray, List.set_cons_succ, List.set_cons_zero])
  refine wpE_take (i := 1) (oi := { dst := some 225, op := Go.Op.load 30 (Go.Operand.tmp 224), type := 30, pos := "law.go:66", after := #[{ on := 0, ground := Go.Ground.data }], guard := none }) (v := ?_) rfl (by kernel_rfl) (fun _ _ _ h => h) (Or.inl ⟨by rfl, fun W hW => ?_⟩) hS ?_
  rotate_left
  · obtain ⟨hw1, hw2, hw3, hw4, hw5, hw6, hw7, hw8, hw9⟩ := hW; go_simp; (try go_bits); (try rw [if_pos (by omega)]); (try with_reducible rfl)
  (try simp only [Act.put, List.setIfInBounds_toArray, List.set_cons_succ, List.set_cons_zero])
  refine wpE_take (i := 2) (oi := { dst := some 226, op := Go.Op.nilCheck (Go.Operand.tmp 225), type := 0, pos := "law.go:66", after := #[{ on := 1, ground := Go.Ground.data }], guard := none }) (v := ?_) rfl (by kernel_rfl) (fun _ _ _ h => h) (Or.inl ⟨by rfl, fun W hW => ?_⟩) hS ?_
  rotate_left
  · obtain ⟨hw1, hw2, hw3, hw4, hw5, hw6, hw7, hw8, hw9⟩ := hW; go_simp; (try go_bits); (try rw [if_pos (by omega)]); (try with_reducible rfl)
  (try simp only [Act.put, List.setIfInBounds_toArray, List.set_cons_succ, List.set_cons_zero])
  refine wpE_take (i := 3) (oi := { dst := some 227, op := Go.Op.fieldAddr 87 (Go.Operand.tmp 226) 1, type := 0, pos := "law.go:66", after := #[{ on := 2, ground := Go.Ground.data }], guard := none }) (v := ?_) rfl (by kernel_rfl) (fun _ _ _ h => h) (Or.inl ⟨by rfl, fun W hW => ?_⟩) hS ?_
  rotate_left
  · obtain ⟨hw1, hw2, hw3, hw4, hw5, hw6, hw7, hw8, hw9⟩ := hW; go_simp; (try go_bits); (try rw [if_pos (by omega)]); (try with_reducible rfl)
  (try simp only [Act.put, List.setIfInBounds_toArray, List.set_cons_succ, List.set_cons_zero])
  refine wpE_take (i := 4) (oi := { dst := some 228, op := Go.Op.load 83 (Go.Operand.tmp 227), type := 83, pos := "law.go:66", after := #[{ on := 3, ground := Go.Ground.data }], guard := none }) (v := ?_) rfl (by kernel_rfl) (fun _ _ _ h => h) (Or.inl ⟨by rfl, fun W hW => ?_⟩) hS ?_
  rotate_left
  · obtain ⟨hw1, hw2, hw3, hw4, hw5, hw6, hw7, hw8, hw9⟩ := hW; go_simp; (try go_bits); (try rw [if_pos (by omega)]); (try with_reducible rfl)
  (try simp only [Act.put, List.setIfInBounds_toArray, List.set_cons_succ, List.set_cons_zero])
  refine wpE_take (i := 5) (oi := { dst := some 229, op := Go.Op.fieldAddr 49 (Go.Operand.tmp 3) 1, type := 0, pos := "law.go:66", after := #[], guard := none }) (v := ?_) rfl (by kernel_rfl) (fun _ _ _ h => h) (Or.inl ⟨by rfl, fun W hW => ?_⟩) hS ?_
  rotate_left
  · obtain ⟨hw1, hw2, hw3, hw4, hw5, hw6, hw7, hw8, hw9⟩ := hW; go_simp; (try go_bits); (try rw [if_pos (by omega)]); (try with_reducible rfl)
  (try simp only [Act.put, List.setIfInBounds_toArray, List.set_cons_succ, List.set_cons_zero])
  refine wpE_take (i := 6) (oi := { dst := some 230, op := Go.Op.load 3 (Go.Operand.tmp 229), type := 3, pos := "law.go:66", after := #[{ on := 5, ground := Go.Ground.data }], guard := none }) (v := ?_) rfl (by kernel_rfl) (fun _ _ _ h => h) (Or.inl ⟨by rfl, fun W hW => ?_⟩) hS ?_
  rotate_left
  · obtain ⟨hw1, hw2, hw3, hw4, hw5, hw6, hw7, hw8, hw9⟩ := hW; go_simp; (try go_bits); (try rw [if_pos (by omega)]); (try with_reducible rfl)
  (try simp only [Act.put, List.setIfInBounds_toArray, List.set_cons_succ, List.set_cons_zero])
  refine wpE_take (i := 7) (oi := { dst := some 231, op := Go.Op.fieldAddr 49 (Go.Operand.tmp 3) 3, type := 0, pos := "law.go:66", after := #[], guard := none }) (v := ?_) rfl (by kernel_rfl) (fun _ _ _ h => h) (Or.inl ⟨by rfl, fun W hW => ?_⟩) hS ?_
  rotate_left
  · obtain ⟨hw1, hw2, hw3, hw4, hw5, hw6, hw7, hw8, hw9⟩ := hW; go_simp; (try go_bits); (try rw [if_pos (by omega)]); (try with_reducible rfl)
  (try simp only [Act.put, List.setIfInBounds_toArray, List.set_cons_succ, List.set_cons_zero])
  refine wpE_take (i := 8) (oi := { dst := some 232, op := Go.Op.load 23 (Go.Operand.tmp 231), type := 23, pos := "law.go:66", after := #[{ on := 7, ground := Go.Ground.data }], guard := none }) (v := ?_) rfl (by kernel_rfl) (fun _ _ _ h => h) (Or.inl ⟨by rfl, fun W hW => ?_⟩) hS ?_
  rotate_left
  · obtain ⟨hw1, hw2, hw3, hw4, hw5, hw6, hw7, hw8, hw9⟩ := hW; go_simp; (try go_bits); (try rw [if_pos (by omega)]); (try with_reducible rfl)
  (try simp only [Act.put, List.setIfInBounds_toArray, List.set_cons_succ, List.set_cons_zero])
  refine wpE_last (oi := { dst := some 233, op := Go.Op.call { callee := Go.Callee.value (Go.Operand.func 91), args := #[Go.Operand.tmp 228, Go.Operand.tmp 230, Go.Operand.tmp 232], argTypes := #[83, 3, 23] }, type := 0, pos := "law.go:66", after := #[{ on := 4, ground := Go.Ground.data }, { on := 6, ground := Go.Ground.data }, { on := 8, ground := Go.Ground.data }], guard := none }) rfl (by kernel_rfl) (by kernel_rfl) (by rfl) (fun K hK => ?_)
  go_simp; refine HB.out.mono ?_; rintro e w3 ⟨rfl, own3, hS3, hT3⟩
  have H3 := Lib.hid (show ∃ own' s' m' l' ms', Step (fun x => x ≠ 0 ∧ x < 50) own w own' w3 ∧ PA own' w3 p rp tp r s' m' l' ∧ PD own' w3 q p2 t2 r s' m' l' ms' ∧ PI s' l' ms' ∧ ms'.length ≤ ms.length + 1 from ⟨own3, s, m, flushP l xd xa, ms, H2.out.1.trans (hS3.mono (fun x h => by omega)), H2.out.2.1.step hS3 (by omega), ⟨H2.out.2.2.mr.step hS3 (by decide), H2.out.2.2.ur.step hS3 (by decide) (by decide), hT3⟩, ⟨H0.out.2.2.2.2.ok, H0.out.2.2.2.2.el.flushP xd xa, H0.out.2.2.2.2.uq.flushP xd xa, H0.out.2.2.2.2.rel⟩, by omega⟩)
  clear hS3 hT3 HB H2
  refine hK _ _ ?_; clear hK K
  clear HDS
  go_wp2
  go_ret
  exact ⟨rfl, H3.out⟩
set_option maxHeartbeats 2000000 in
theorem do_9 (hA : PA own w p rp tp r s m l) (hD : PD own w q p2 t2 r s m l ms) (hI : PI s l ms) (hms : ms.length < 4398046511103) (hbk : i64B xk) (hbs : i64B xs) (hba : xa < 18446744073709551616) (hbv : xv < 18446744073709551616) (hk : xk % 11 = 9) :
    Calls Tryz.prog 53 #[.agg #[.pointer (some ⟨p, 0, none⟩), .pointer (some ⟨q, 0, none⟩), .pointer (some ⟨rp, 0, none⟩), .pointer (some ⟨p2, 0, none⟩)], .agg #[.int .i64 xk, .int .i64 xd, .int .i64 xs, .int .u64 (xa : Int), .int .u64 (xv : Int), .bool xw, .int .i64 xg, .int .i64 xq]] w fun e w' => e = .returned (.bool true) ∧ ∃ own' s' m' l' ms', Step (fun x => x ≠ 0 ∧ x < 50) own w own' w' ∧ PA own' w' p rp tp r s' m' l' ∧ PD own' w' q p2 t2 r s' m' l' ms' ∧ PI s' l' ms' ∧ ms'.length ≤ ms.length + 1 := by
  have P1 := fun w => place_calls xk 11 w hbk.1 hbk.2 (by decide) (by decide)
  rw [hk] at P1
  have HP := Lib.hid P1
  have hS1 : Step (fun _ => False) own w (ext own w 50) (w.alloc (.cells #[.pointer (some ⟨p, 0, none⟩), .pointer (some ⟨q, 0, none⟩), .pointer (some ⟨rp, 0, none⟩), .pointer (some ⟨p2, 0, none⟩)] 36)) := ⟨(Upd.refl _ _).alloc _, fun b hb => ext_old _ _ _ hb⟩
  have hS2 : Step (fun _ => False) (ext own w 50) (w.alloc (.cells #[.pointer (some ⟨p, 0, none⟩), .pointer (some ⟨q, 0, none⟩), .pointer (some ⟨rp, 0, none⟩), .pointer (some ⟨p2, 0, none⟩)] 36)) (ext (ext own w 50) (w.alloc (.cells #[.pointer (some ⟨p, 0, none⟩), .pointer (some ⟨q, 0, none⟩), .pointer (some ⟨rp, 0, none⟩), .pointer (some ⟨p2, 0, none⟩)] 36)) 50) ((w.alloc (.cells #[.pointer (some ⟨p, 0, none⟩), .pointer (some ⟨q, 0, none⟩), .pointer (some ⟨rp, 0, none⟩), .pointer (some ⟨p2, 0, none⟩)] 36)).alloc (.cells #[.int .i64 xk, .int .i64 xd, .int .i64 xs, .int .u64 (xa : Int), .int .u64 (xv : Int), .bool xw, .int .i64 xg, .int .i64 xq] 49)) := ⟨(Upd.refl _ _).alloc _, fun b hb => ext_old _ _ _ hb⟩
  have hX : DX (ext (ext own w 50) (w.alloc (.cells #[.pointer (some ⟨p, 0, none⟩), .pointer (some ⟨q, 0, none⟩), .pointer (some ⟨rp, 0, none⟩), .pointer (some ⟨p2, 0, none⟩)] 36)) 50) ((w.alloc (.cells #[.pointer (some ⟨p, 0, none⟩), .pointer (some ⟨q, 0, none⟩), .pointer (some ⟨rp, 0, none⟩), .pointer (some ⟨p2, 0, none⟩)] 36)).alloc (.cells #[.int .i64 xk, .int .i64 xd, .int .i64 xs, .int .u64 (xa : Int), .int .u64 (xv : Int), .bool xw, .int .i64 xg, .int .i64 xq] 49)) w.heap.size (w.heap.size + 1) p q rp p2 xk xd xs xa xv xw xg xq := by
    obtain ⟨g1, g2⟩ := hS2.blk (Blk.new w _ _) (ext_new own w 50 (Nat.le_refl _)) (fun h => h)
    have g3 := Blk.new (w.alloc (.cells #[.pointer (some ⟨p, 0, none⟩), .pointer (some ⟨q, 0, none⟩), .pointer (some ⟨rp, 0, none⟩), .pointer (some ⟨p2, 0, none⟩)] 36)) 49 #[.int .i64 xk, .int .i64 xd, .int .i64 xs, .int .u64 (xa : Int), .int .u64 (xv : Int), .bool xw, .int .i64 xg, .int .i64 xq]
    have g4 : ext (ext own w 50) (w.alloc (.cells #[.pointer (some ⟨p, 0, none⟩), .pointer (some ⟨q, 0, none⟩), .pointer (some ⟨rp, 0, none⟩), .pointer (some ⟨p2, 0, none⟩)] 36)) 50 (w.alloc (.cells #[.pointer (some ⟨p, 0, none⟩), .pointer (some ⟨q, 0, none⟩), .pointer (some ⟨rp, 0, none⟩), .pointer (some ⟨p2, 0, none⟩)] 36)).heap.size = 50 := ext_new _ _ _ (Nat.le_refl _)
    rw [World.size_alloc] at g3 g4
    exact ⟨g1, g2, g3, g4⟩
  have hS := hS1.trans hS2
  have hA1 := hA.step hS (fun x h => h.elim)
  have hD1 := hD.step hS (fun x h => h.elim)
  obtain ⟨b0, b1, x1, x2, x3, x4, x5, x6, x7, lb, lx⟩ := hX.cells
  have H0 := Lib.hid (And.intro (hS.mono (C' := fun x => x ≠ 0 ∧ x < 50) (fun x h => h.elim)) (And.intro hA1 (And.intro hD1 (And.intro hX hI))))
  clear P1 hS1 hS2 hX hS hA1 hD1 hA hD hk hI
  go_enter Tryz.func53, Tryz.ntmps53
  go_wp2_with fail
  ((with_reducible refine (HP.out _).mono ?_); rintro e wz ⟨rfl, rfl⟩)
  clear HP
  generalize (ext (ext own w 50) (w.alloc (.cells #[.pointer (some ⟨p, 0, none⟩), .pointer (some ⟨q, 0, none⟩), .pointer (some ⟨rp, 0, none⟩), .pointer (some ⟨p2, 0, none⟩)] 36)) 50) = own1 at *
  generalize ((w.alloc (.cells #[.pointer (some ⟨p, 0, none⟩), .pointer (some ⟨q, 0, none⟩), .pointer (some ⟨rp, 0, none⟩), .pointer (some ⟨p2, 0, none⟩)] 36)).alloc (.cells #[.int .i64 xk, .int .i64 xd, .int .i64 xs, .int .u64 (xa : Int), .int .u64 (xv : Int), .bool xw, .int .i64 xg, .int .i64 xq] 49)) = w1 at *
  generalize hob : w.heap.size = ob at *
  generalize hxb : ob + 1 = xb at *
  have hdr : Step (fun _ => False) own1 w1 own1 w1.drew := (Step.refl _ _ _).drew
  have Hd := Lib.hid (And.intro (H0.out.1.trans (hdr.mono (fun x h => h.elim))) (And.intro (H0.out.2.1.step hdr (fun x h => h.elim)) (And.intro (H0.out.2.2.1.step hdr (fun x h => h.elim)) (And.intro (H0.out.2.2.2.1.step hdr (fun h => h)) H0.out.2.2.2.2))))
  have HDS := Lib.hid (H0.out.2.2.2.1.dS H0.out.2.2.1)
  clear hdr
  have HA := Lib.hid (io_EvictX Hd.out.2.1.u Hd.out.2.1.t (by decide) xs)
  go_wp2_with fail
  refine wpE_region (S := dS ob xb q p t2 xd xs xa xv xg xq) (s := 14) (by kernel_rfl) ?_
  have hS : (dS ob xb q p t2 xd xs xa xv xg xq) _ := HDS.out
  refine wpE_take (i := 0) (oi := { dst := some 236, op := Go.Op.fieldAddr 36 (Go.Operand.tmp 2) 0, type := 0, pos := "law.go:68", after := #[], guard := none }) (v := ?_) rfl (by kernel_rfl) (fun _ _ _ h => h) (Or.inl ⟨by rfl, fun W hW => ?_⟩) hS ?_
  rotate_left
  · obtain ⟨hw1, hw2, hw3, hw4, hw5, hw6, hw7, hw8, hw9⟩ := hW; go_simp; (try go_bits); (try rw [if_pos (by omega)]); (try with_reducible rfl)
  (try simp only [Act.put, List.setIfInBounds_toArray, List.set_cons_succ, List.set_cons_zero])
  refine wpE_take (i := 1) (oi := { dst := some 237, op := Go.Op.load 29 (Go.Operand.tmp 236), type := 29, pos := "law.go:68", after := #[{ on := 0, ground := Go.Ground.data }], guard := none }) (v := ?_) rfl (by kernel_rfl) (fun _ _ _ h => h) (Or.inl ⟨by rfl, fun W hW => ?_⟩) hS ?_
  rotate_left
  · obtain ⟨hw1, hw2, hw3, hw4, hw5, hw6, hw7, hw8, hw9⟩ := hW; go_simp; (try go_bits); (try rw [if_pos (by omega)]); (try with_reducible rfl)
  (try simp only [Act.put, List.setIfInBounds_toArray, List.set_cons_succ, List.set_cons_zero])
  refine wpE_take (i := 2) (oi := { dst := some 238, op := Go.Op.fieldAddr 49 (Go.Operand.tmp 3) 2, type := 0, pos := "law.go:68", after := #[], guard := none }) (v := ?_) rfl (by kernel_rfl) (fun _ _ _ h => h) (Or.inl ⟨by rfl, fun W hW => ?_⟩) hS ?_
  rotate_left
  · obtain ⟨hw1, hw2, hw3, hw4, hw5, hw6, hw7, hw8, hw9⟩ := hW; go_simp; (try go_bits); (try rw [if_pos (by omega)]); (try with_reducible rfl)
  (try simp only [Act.put, List.setIfInBounds_toArray, List.set_cons_succ, List.set_cons_zero])
  refine wpE_take (i := 3) (oi := { dst := some 239, op := Go.Op.load 3 (Go.Operand.tmp 238), type := 3, pos := "law.go:68", after := #[{ on := 2, ground := Go.Ground.data }], guard := none }) (v := ?_) rfl (by kernel_rfl) (fun _ _ _ h => h) (Or.inl ⟨by rfl, fun W hW => ?_⟩) hS ?_
  rotate_left
  · obtain ⟨hw1, hw2, hw3, hw4, hw5, hw6, hw7, hw8, hw9⟩ := hW; go_simp; (try go_bits); (try rw [if_pos (by omega)]); (try with_reducible rfl)
  (try simp only [Act.put, List.setIfInBounds_toArray, List.set_cons_succ, List.set_cons_zero])
  refine wpE_take (i := 5) (oi := { dst := some 241, op := Go.Op.fieldAddr 36 (Go.Operand.tmp 2) 1, type := 0, pos := "law.go:68", after := #[], guard := none }) (v := ?_) rfl (by kernel_rfl) (fun _ _ _ h => h) (Or.inl ⟨by rfl, fun W hW => ?_⟩) hS ?_
  rotate_left
  · obtain ⟨hw1, hw2, hw3, hw4, hw5, hw6, hw7, hw8, hw9⟩ := hW; go_simp; (try go_bits); (try rw [if_pos (by omega)]); (try with_reducible rfl)
  (try simp only [Act.put, List.setIfInBounds_toArray, List.set_cons_succ, List.set_cons_zero])
  refine wpE_take (i := 6) (oi := { dst := some 242, op := Go.Op.load 30 (Go.Operand.tmp 241), type := 30, pos := "law.go:68", after := #[{ on := 5, ground := Go.Ground.data }], guard := none }) (v := ?_) rfl (by kernel_rfl) (fun _ _ _ h => h) (Or.inl ⟨by rfl, fun W hW => ?_⟩) hS ?_
  rotate_left
  · obtain ⟨hw1, hw2, hw3, hw4, hw5, hw6, hw7, hw8, hw9⟩ := hW; go_simp; (try go_bits); (try rw [if_pos (by omega)]); (try with_reducible rfl)
  (try simp only [Act.put, List.setIfInBounds_toArray, List.set_cons_succ, List.set_cons_zero])
  refine wpE_take (i := 7) (oi := { dst := some 243, op := Go.Op.nilCheck (Go.Operand.tmp 242), type := 0, pos := "law.go:68", after := #[{ on := 6, ground := Go.Ground.data }], guard := none }) (v := ?_) rfl (by kernel_rfl) (fun _ _ _ h => h) (Or.inl ⟨by rfl, fun W hW => ?_⟩) hS ?_
  rotate_left
  · obtain ⟨hw1, hw2, hw3, hw4, hw5, hw6, hw7, hw8, hw9⟩ := hW; go_simp; (try go_bits); (try rw [if_pos (by omega)]); (try with_reducible rfl)
  (try simp only [Act.put, List.setIfInBounds_toArray, List.set_cons_succ, List.set_cons_zero])
  refine wpE_take (i := 8) (oi := { dst := some 244, op := Go.Op.fieldAddr 87 (Go.Operand.tmp 243) 1, type := 0, pos := "law.go:68", after := #[{ on := 7, ground := Go.Ground.data }], guard := none }) (v := ?_) rfl (by kernel_rfl) (fun _ _ _ h => h) (Or.inl ⟨by rfl, fun W hW => ?_⟩) hS ?_
  rotate_left
  · obtain ⟨hw1, hw2, hw3, hw4, hw5, hw6, hw7, hw8, hw9⟩ := hW; go_simp; (try go_bits); (try rw [if_pos (by omega)]); (try with_reducible rfl)
  (try simp only [Act.put, List.setIfInBounds_toArray, List.set_cons_succ, List.set_cons_zero])
  refine wpE_take (i := 9) (oi := { dst := some 245, op := Go.Op.load 83 (Go.Operand.tmp 244), type := 83, pos := "law.go:68", after := #[{ on := 8, ground := Go.Ground.data }], guard := none }) (v := ?_) rfl (by kernel_rfl) (fun _ _ _ h => h) (Or.inl ⟨by rfl, fun W hW => ?_⟩) hS ?_
  rotate_left
  · obtain ⟨hw1, hw2, hw3, hw4, hw5, hw6, hw7, hw8, hw9⟩ := hW; go_simp; (try go_bits); (try rw [if_pos (by omega)]); (try with_reducible rfl)
  (try simp only [Act.put, List.setIfInBounds_toArray, List.set_cons_succ, List.set_cons_zero])
  refine wpE_take (i := 10) (oi := { dst := some 246, op := Go.Op.fieldAddr 49 (Go.Operand.tmp 3) 2, type := 0, pos := "law.go:68", after := #[], guard := none }) (v := ?_) rfl (by kernel_rfl) (fun _ _ _ h => h) (Or.inl ⟨by rfl, fun W hW => ?_⟩) hS ?_
  rotate_left
  · obtain ⟨hw1, hw2, hw3, hw4, hw5, hw6, hw7, hw8, hw9⟩ := hW; go_simp; (try go_bits); (try rw [if_pos (by omega)]); (try with_reducible rfl)
  (try simp only [Act.put, List.setIfInBounds_toArray, List.set_cons_succ, List.set_cons_zero])
  refine wpE_take (i := 11) (oi := { dst := some 247, op := Go.Op.load 3 (Go.Operand.tmp 246), type := 3, pos := "law.go:68", after := #[{ on := 10, ground := Go.Ground.data }], guard := none }) (v := ?_) rfl (by kernel_rfl) (fun _ _ _ h => h) (Or.inl ⟨by rfl, fun W hW => ?_⟩) hS ?_
  rotate_left
  · obtain ⟨hw1, hw2, hw3, hw4, hw5, hw6, hw7, hw8, hw9⟩ := hW; go_simp; (try go_bits); (try rw [if_pos (by omega)]); (try with_reducible rfl)
  (try simp only [Act.put, List.setIfInBounds_toArray, List.set_cons_succ, List.set_cons_zero])
  refine wpE_only (i := 4) (oi := { dst := some 240, op := Go.Op.call { callee := Go.Callee.value (Go.Operand.func 92), args := #[Go.Operand.tmp 237, Go.Operand.tmp 239], argTypes := #[29, 3] }, type := 4, pos := "law.go:68", after := #[{ on := 1, ground := Go.Ground.data }, { on := 3, ground := Go.Ground.data }], guard := none }) rfl (by kernel_rfl) (by rfl) (fun K hK => ?_)
  go_simp; refine HA.out.mono ?_; rintro e w2 ⟨rfl, own2, hS2, hT2⟩
  have hP2 : PA own2 w2 p rp tp r s m (evictT l xs) := ⟨Hd.out.2.1.u.step hS2 (by decide), Hd.out.2.1.mm.step hS2 (by decide), hT2⟩
  have hD2 := Hd.out.2.2.1.step hS2 (by omega)
  have hX2 := Hd.out.2.2.2.1.step hS2 (by decide)
  have HB := Lib.hid (tref_Evict hD2.tr (by decide) Hd.out.2.2.2.2.uq xs)
  have H2 := Lib.hid (And.intro (Hd.out.1.trans (hS2.mono (fun x h => by omega))) (And.intro hP2 (And.intro hD2 hX2)))
  have hS := hX2.dS hD2
  clear hS2 hT2 hP2 hD2 hX2 HA
  refine hK _ _ hS ?_; clear hK K
  (try simp only [Act.put, List.setIfInBounds_toArray, List.set_cons_succ, List.set_cons_zero])
  refine wpE_only (i := 12) (oi := { dst := some 248, op := Go.Op.call { callee := Go.Callee.value (Go.Operand.func 93), args := #[Go.Operand.tmp 245, Go.Operand.tmp 247], argTypes := #[83, 3] }, type := 4, pos := "law.go:68", after := #[{ on := 9, ground := Go.Ground.data }, { on := 11, ground := Go.Ground.data }, { on := 4, ground := Go.Ground.chain }], guard := none }) rfl (by kernel_rfl) (by rfl) (fun K hK => ?_)
  go_simp; refine HB.out.mono ?_; rintro e w3 ⟨rfl, own3, hS3, hT3⟩
  have hD3 : PD own3 w3 q p2 t2 r s m (evictT l xs) ms := ⟨H2.out.2.2.1.mr.step hS3 (by decide), H2.out.2.2.1.ur.step hS3 (by decide) (by decide), hT3⟩
  have hP3 := H2.out.2.1.step hS3 (by omega)
  have hX3 := H2.out.2.2.2.step hS3 (by decide)
  have H3 := Lib.hid (And.intro (H2.out.1.trans (hS3.mono (fun x h => by omega))) (And.intro hP3 hD3))
  have hS := hX3.dS hD3
  clear hS3 hT3 hP3 hD3 hX3 HB
  refine hK _ _ hS ?_; clear hK K
  (try simp only [Act.put, List.setIfInBounds_toArray, List.set_cons_succ, List.set_cons_zero])
  refine wpE_take (i := 13) (oi := { dst := some 249, op := Go.Op.binOp Go.BinOp.eql 4 (Go.Operand.tmp 240) (Go.Operand.tmp 248) 4, type := 4, pos := "law.go:68", after := #[{ on := 4, ground := Go.Ground.data }, { on := 12, ground := Go.Ground.data }], guard := none }) (v := ?_) rfl (by kernel_rfl) (fun _ _ _ h => h) (Or.inl ⟨by rfl, fun W hW => ?_⟩) hS ?_
  rotate_left
  · obtain ⟨hw1, hw2, hw3, hw4, hw5, hw6, hw7, hw8, hw9⟩ := hW; go_simp; (try go_bits); (try rw [if_pos (by omega)]); (try with_reducible rfl)
  (try simp only [Act.put, List.setIfInBounds_toArray, List.set_cons_succ, List.set_cons_zero])
  refine wpE_last (oi := { dst := some 4, op := Go.Op.assign (Go.Operand.tmp 249), type := 4, pos := "law.go:68", after := #[{ on := 13, ground := Go.Ground.data }, { on := 12, ground := Go.Ground.chain }, { on := 0, ground := Go.Ground.phase }, { on := 1, ground := Go.Ground.phase }, { on := 2, ground := Go.Ground.phase }, { on := 3, ground := Go.Ground.phase }, { on := 4, ground := Go.Ground.phase }, { on := 5, ground := Go.Ground.phase }, { on := 6, ground := Go.Ground.phase }, { on := 7, ground := Go.Ground.phase }, { on := 8, ground := Go.Ground.phase }, { on := 9, ground := Go.Ground.phase }, { on := 10, ground := Go.Ground.phase }, { on := 11, ground := Go.Ground.phase }, { on := 12, ground := Go.Ground.phase }, { on := 13, ground := Go.Ground.phase }], guard := none }) rfl (by kernel_rfl) (by kernel_rfl) (by rfl) (fun K hK => ?_)
  go_simp; (try go_bits); refine hK _ _ ?_; clear hK K
  clear hS
  go_wp2
  go_ret
  exact ⟨by first | rfl | simp, own3, _, _, _, ms, H3.out.1, H3.out.2.1, H3.out.2.2, ⟨Hd.out.2.2.2.2.ok, Hd.out.2.2.2.2.el.evict xs, Hd.out.2.2.2.2.uq.evict xs, Hd.out.2.2.2.2.rel⟩, by omega⟩
set_option maxHeartbeats 2000000 in
theorem do_10 (hA : PA own w p rp tp r s m l) (hD : PD own w q p2 t2 r s m l ms) (hI : PI s l ms) (hms : ms.length < 4398046511103) (hbk : i64B xk) (hbs : i64B xs) (hba : xa < 18446744073709551616) (hbv : xv < 18446744073709551616) (hk : xk % 11 = 10) :
    Calls Tryz.prog 53 #[.agg #[.pointer (some ⟨p, 0, none⟩), .pointer (some ⟨q, 0, none⟩), .pointer (some ⟨rp, 0, none⟩), .pointer (some ⟨p2, 0, none⟩)], .agg #[.int .i64 xk, .int .i64 xd, .int .i64 xs, .int .u64 (xa : Int), .int .u64 (xv : Int), .bool xw, .int .i64 xg, .int .i64 xq]] w fun e w' => e = .returned (.bool true) ∧ ∃ own' s' m' l' ms', Step (fun x => x ≠ 0 ∧ x < 50) own w own' w' ∧ PA own' w' p rp tp r s' m' l' ∧ PD own' w' q p2 t2 r s' m' l' ms' ∧ PI s' l' ms' ∧ ms'.length ≤ ms.length + 1 := by
  have P1 := fun w => place_calls xk 11 w hbk.1 hbk.2 (by decide) (by decide)
  rw [hk] at P1
  have HP := Lib.hid P1
  have hS1 : Step (fun _ => False) own w (ext own w 50) (w.alloc (.cells #[.pointer (some ⟨p, 0, none⟩), .pointer (some ⟨q, 0, none⟩), .pointer (some ⟨rp, 0, none⟩), .pointer (some ⟨p2, 0, none⟩)] 36)) := ⟨(Upd.refl _ _).alloc _, fun b hb => ext_old _ _ _ hb⟩
  have hS2 : Step (fun _ => False) (ext own w 50) (w.alloc (.cells #[.pointer (some ⟨p, 0, none⟩), .pointer (some ⟨q, 0, none⟩), .pointer (some ⟨rp, 0, none⟩), .pointer (some ⟨p2, 0, none⟩)] 36)) (ext (ext own w 50) (w.alloc (.cells #[.pointer (some ⟨p, 0, none⟩), .pointer (some ⟨q, 0, none⟩), .pointer (some ⟨rp, 0, none⟩), .pointer (some ⟨p2, 0, none⟩)] 36)) 50) ((w.alloc (.cells #[.pointer (some ⟨p, 0, none⟩), .pointer (some ⟨q, 0, none⟩), .pointer (some ⟨rp, 0, none⟩), .pointer (some ⟨p2, 0, none⟩)] 36)).alloc (.cells #[.int .i64 xk, .int .i64 xd, .int .i64 xs, .int .u64 (xa : Int), .int .u64 (xv : Int), .bool xw, .int .i64 xg, .int .i64 xq] 49)) := ⟨(Upd.refl _ _).alloc _, fun b hb => ext_old _ _ _ hb⟩
  have hX : DX (ext (ext own w 50) (w.alloc (.cells #[.pointer (some ⟨p, 0, none⟩), .pointer (some ⟨q, 0, none⟩), .pointer (some ⟨rp, 0, none⟩), .pointer (some ⟨p2, 0, none⟩)] 36)) 50) ((w.alloc (.cells #[.pointer (some ⟨p, 0, none⟩), .pointer (some ⟨q, 0, none⟩), .pointer (some ⟨rp, 0, none⟩), .pointer (some ⟨p2, 0, none⟩)] 36)).alloc (.cells #[.int .i64 xk, .int .i64 xd, .int .i64 xs, .int .u64 (xa : Int), .int .u64 (xv : Int), .bool xw, .int .i64 xg, .int .i64 xq] 49)) w.heap.size (w.heap.size + 1) p q rp p2 xk xd xs xa xv xw xg xq := by
    obtain ⟨g1, g2⟩ := hS2.blk (Blk.new w _ _) (ext_new own w 50 (Nat.le_refl _)) (fun h => h)
    have g3 := Blk.new (w.alloc (.cells #[.pointer (some ⟨p, 0, none⟩), .pointer (some ⟨q, 0, none⟩), .pointer (some ⟨rp, 0, none⟩), .pointer (some ⟨p2, 0, none⟩)] 36)) 49 #[.int .i64 xk, .int .i64 xd, .int .i64 xs, .int .u64 (xa : Int), .int .u64 (xv : Int), .bool xw, .int .i64 xg, .int .i64 xq]
    have g4 : ext (ext own w 50) (w.alloc (.cells #[.pointer (some ⟨p, 0, none⟩), .pointer (some ⟨q, 0, none⟩), .pointer (some ⟨rp, 0, none⟩), .pointer (some ⟨p2, 0, none⟩)] 36)) 50 (w.alloc (.cells #[.pointer (some ⟨p, 0, none⟩), .pointer (some ⟨q, 0, none⟩), .pointer (some ⟨rp, 0, none⟩), .pointer (some ⟨p2, 0, none⟩)] 36)).heap.size = 50 := ext_new _ _ _ (Nat.le_refl _)
    rw [World.size_alloc] at g3 g4
    exact ⟨g1, g2, g3, g4⟩
  have hS := hS1.trans hS2
  have hA1 := hA.step hS (fun x h => h.elim)
  have hD1 := hD.step hS (fun x h => h.elim)
  obtain ⟨b0, b1, x1, x2, x3, x4, x5, x6, x7, lb, lx⟩ := hX.cells
  have H0 := Lib.hid (And.intro (hS.mono (C' := fun x => x ≠ 0 ∧ x < 50) (fun x h => h.elim)) (And.intro hA1 (And.intro hD1 (And.intro hX hI))))
  clear P1 hS1 hS2 hX hS hA1 hD1 hA hD hk hI
  go_enter Tryz.func53, Tryz.ntmps53
  go_wp2_with fail
  ((with_reducible refine (HP.out _).mono ?_); rintro e wz ⟨rfl, rfl⟩)
  clear HP
  generalize (ext (ext own w 50) (w.alloc (.cells #[.pointer (some ⟨p, 0, none⟩), .pointer (some ⟨q, 0, none⟩), .pointer (some ⟨rp, 0, none⟩), .pointer (some ⟨p2, 0, none⟩)] 36)) 50) = own1 at *
  generalize ((w.alloc (.cells #[.pointer (some ⟨p, 0, none⟩), .pointer (some ⟨q, 0, none⟩), .pointer (some ⟨rp, 0, none⟩), .pointer (some ⟨p2, 0, none⟩)] 36)).alloc (.cells #[.int .i64 xk, .int .i64 xd, .int .i64 xs, .int .u64 (xa : Int), .int .u64 (xv : Int), .bool xw, .int .i64 xg, .int .i64 xq] 49)) = w1 at *
  generalize hob : w.heap.size = ob at *
  generalize hxb : ob + 1 = xb at *
  have hdr : Step (fun _ => False) own1 w1 own1 w1.drew := (Step.refl _ _ _).drew
  have Hd := Lib.hid (And.intro (H0.out.1.trans (hdr.mono (fun x h => h.elim))) (And.intro (H0.out.2.1.step hdr (fun x h => h.elim)) (And.intro (H0.out.2.2.1.step hdr (fun x h => h.elim)) (And.intro (H0.out.2.2.2.1.step hdr (fun h => h)) H0.out.2.2.2.2))))
  have HDS := Lib.hid (H0.out.2.2.2.1.dS H0.out.2.2.1)
  clear hdr
  have hA0 := io_RingX Hd.out.2.1.u Hd.out.2.1.mm xa hba
  obtain ⟨z, hz⟩ : ∃ z : Int, (if ringOk 8 xa then (0 : Int) else 1) = z := ⟨_, rfl⟩
  rw [hz] at hA0
  have HA := Lib.hid hA0
  have HZ := Lib.hid hz
  clear hA0 hz
  go_wp2_with fail
  refine wpE_region (S := dS ob xb q p t2 xd xs xa xv xg xq) (s := 11) (by kernel_rfl) ?_
  have hS : (dS ob xb q p t2 xd xs xa xv xg xq) _ := HDS.out
  refine wpE_take (i := 0) (oi := { dst := some 252, op := Go.Op.fieldAddr 36 (Go.Operand.tmp 2) 0, type := 0, pos := "law.go:70", after := #[], guard := none }) (v := ?_) rfl (by kernel_rfl) (fun _ _ _ h => h) (Or.inl ⟨by rfl, fun W hW => ?_⟩) hS ?_
  rotate_left
  · obtain ⟨hw1, hw2, hw3, hw4, hw5, hw6, hw7, hw8, hw9⟩ := hW; go_simp; (try go_bits); (try rw [if_pos (by omega)]); (try with_reducible rfl)
  (try simp only [Act.put, List.setIfInBounds_toArray, List.set_cons_succ, List.set_cons_zero])
  refine wpE_take (i := 1) (oi := { dst := some 253, op := Go.Op.load 29 (Go.Operand.tmp 252), type := 29, pos := "law.go:70", after := #[{ on := 0, ground := Go.Ground.data }], guard := none }) (v := ?_) rfl (by kernel_rfl) (fun _ _ _ h => h) (Or.inl ⟨by rfl, fun W hW => ?_⟩) hS ?_
  rotate_left
  · obtain ⟨hw1, hw2, hw3, hw4, hw5, hw6, hw7, hw8, hw9⟩ := hW; go_simp; (try go_bits); (try rw [if_pos (by omega)]); (try with_reducible rfl)
  (try simp only [Act.put, List.setIfInBounds_toArray, List.set_cons_succ, List.set_cons_zero])
  refine wpE_take (i := 2) (oi := { dst := some 254, op := Go.Op.fieldAddr 49 (Go.Operand.tmp 3) 3, type := 0, pos := "law.go:70", after := #[], guard := none }) (v := ?_) rfl (by kernel_rfl) (fun _ _ _ h => h) (Or.inl ⟨by rfl, fun W hW => ?_⟩) hS ?_
  rotate_left
  · obtain ⟨hw1, hw2, hw3, hw4, hw5, hw6, hw7, hw8, hw9⟩ := hW; go_simp; (try go_bits); (try rw [if_pos (by omega)]); (try with_reducible rfl)
  (try simp only [Act.put, List.setIfInBounds_toArray, List.set_cons_succ, List.set_cons_zero])
  refine wpE_take (i := 3) (oi := { dst := some 255, op := Go.Op.load 23 (Go.Operand.tmp 254), type := 23, pos := "law.go:70", after := #[{ on := 2, ground := Go.Ground.data }], guard := none }) (v := ?_) rfl (by kernel_rfl) (fun _ _ _ h => h) (Or.inl ⟨by rfl, fun W hW => ?_⟩) hS ?_
  rotate_left
  · obtain ⟨hw1, hw2, hw3, hw4, hw5, hw6, hw7, hw8, hw9⟩ := hW; go_simp; (try go_bits); (try rw [if_pos (by omega)]); (try with_reducible rfl)
  (try simp only [Act.put, List.setIfInBounds_toArray, List.set_cons_succ, List.set_cons_zero])
  refine wpE_take (i := 5) (oi := { dst := some 257, op := Go.Op.fieldAddr 36 (Go.Operand.tmp 2) 1, type := 0, pos := "law.go:70", after := #[], guard := none }) (v := ?_) rfl (by kernel_rfl) (fun _ _ _ h => h) (Or.inl ⟨by rfl, fun W hW => ?_⟩) hS ?_
  rotate_left
  · obtain ⟨hw1, hw2, hw3, hw4, hw5, hw6, hw7, hw8, hw9⟩ := hW; go_simp; (try go_bits); (try rw [if_pos (by omega)]); (try with_reducible rfl)
  (try simp only [Act.put, List.setIfInBounds_toArray, List.set_cons_succ, List.set_cons_zero])
  refine wpE_take (i := 6) (oi := { dst := some 258, op := Go.Op.load 30 (Go.Operand.tmp 257), type := 30, pos := "law.go:70", after := #[{ on := 5, ground := Go.Ground.data }], guard := none }) (v := ?_) rfl (by kernel_rfl) (fun _ _ _ h => h) (Or.inl ⟨by rfl, fun W hW => ?_⟩) hS ?_
  rotate_left
  · obtain ⟨hw1, hw2, hw3, hw4, hw5, hw6, hw7, hw8, hw9⟩ := hW; go_simp; (try go_bits); (try rw [if_pos (by omega)]); (try with_reducible rfl)
  (try simp only [Act.put, List.setIfInBounds_toArray, List.set_cons_succ, List.set_cons_zero])
  refine wpE_take (i := 7) (oi := { dst := some 259, op := Go.Op.fieldAddr 49 (Go.Operand.tmp 3) 3, type := 0, pos := "law.go:70", after := #[], guard := none }) (v := ?_) rfl (by kernel_rfl) (fun _ _ _ h => h) (Or.inl ⟨by rfl, fun W hW => ?_⟩) hS ?_
  rotate_left
  · obtain ⟨hw1, hw2, hw3, hw4, hw5, hw6, hw7, hw8, hw9⟩ := hW; go_simp; (try go_bits); (try rw [if_pos (by omega)]); (try with_reducible rfl)
  (try simp only [Act.put, List.setIfInBounds_toArray, List.set_cons_succ, List.set_cons_zero])
  refine wpE_take (i := 8) (oi := { dst := some 260, op := Go.Op.load 23 (Go.Operand.tmp 259), type := 23, pos := "law.go:70", after := #[{ on := 7, ground := Go.Ground.data }], guard := none }) (v := ?_) rfl (by kernel_rfl) (fun _ _ _ h => h) (Or.inl ⟨by rfl, fun W hW => ?_⟩) hS ?_
  rotate_left
  · obtain ⟨hw1, hw2, hw3, hw4, hw5, hw6, hw7, hw8, hw9⟩ := hW; go_simp; (try go_bits); (try rw [if_pos (by omega)]); (try with_reducible rfl)
  (try simp only [Act.put, List.setIfInBounds_toArray, List.set_cons_succ, List.set_cons_zero])
  refine wpE_only (i := 4) (oi := { dst := some 256, op := Go.Op.call { callee := Go.Callee.value (Go.Operand.func 8), args := #[Go.Operand.tmp 253, Go.Operand.tmp 255], argTypes := #[29, 23] }, type := 39, pos := "law.go:70", after := #[{ on := 1, ground := Go.Ground.data }, { on := 3, ground := Go.Ground.data }], guard := none }) rfl (by kernel_rfl) (by rfl) (fun K hK => ?_)
  go_simp; refine HA.out.mono ?_; rintro e w2 ⟨rfl, hS2, hU2⟩
  have hP2 : PA own1 w2 p rp tp r (ringS 8 s xa) m l := ⟨hU2, Hd.out.2.1.mm.step hS2 (by decide), Hd.out.2.1.t.step hS2 (by decide) (by decide)⟩
  have hD2 := Hd.out.2.2.1.step hS2 (by omega)
  have hX2 := Hd.out.2.2.2.1.step hS2 (by decide)
  have hB0 := uref_Ring hD2.ur hD2.mr (by decide) xa hba
  rw [HZ.out] at hB0
  have HB := Lib.hid hB0
  have H2 := Lib.hid (And.intro (Hd.out.1.trans (hS2.mono (fun x h => by omega))) (And.intro hP2 (And.intro hD2 hX2)))
  have hS := hX2.dS hD2
  clear hS2 hU2 hP2 hD2 hX2 HA hB0
  refine hK _ _ hS ?_; clear hK K
  (try simp only [Act.put, List.setIfInBounds_toArray, List.set_cons_succ, List.set_cons_zero])
  refine wpE_only (i := 9) (oi := { dst := some 261, op := Go.Op.call { callee := Go.Callee.value (Go.Operand.func 94), args := #[Go.Operand.tmp 258, Go.Operand.tmp 260], argTypes := #[30, 23] }, type := 3, pos := "law.go:70", after := #[{ on := 6, ground := Go.Ground.data }, { on := 8, ground := Go.Ground.data }, { on := 4, ground := Go.Ground.chain }], guard := none }) rfl (by kernel_rfl) (by rfl) (fun K hK => ?_)
  go_simp; refine HB.out.mono ?_; rintro e w3 ⟨rfl, hS3, hU3⟩
  have hD3 : PD own1 w3 q p2 t2 r (ringS 8 s xa) m l ms := ⟨H2.out.2.2.1.mr.step hS3 (by decide), hU3, H2.out.2.2.1.tr.step hS3 (by decide) (by decide)⟩
  have hP3 := H2.out.2.1.step hS3 (by omega)
  have hX3 := H2.out.2.2.2.step hS3 (by decide)
  have H3 := Lib.hid (And.intro (H2.out.1.trans (hS3.mono (fun x h => by omega))) (And.intro hP3 hD3))
  have hS := hX3.dS hD3
  clear hS3 hU3 hP3 hD3 hX3 HB
  refine hK _ _ hS ?_; clear hK K
  (try simp only [Act.put, List.setIfInBounds_toArray, List.set_cons_succ, List.set_cons_zero])
  refine wpE_take (i := 10) (oi := { dst := some 262, op := Go.Op.binOp Go.BinOp.eql 3 (Go.Operand.tmp 256) (Go.Operand.tmp 261) 3, type := 4, pos := "law.go:70", after := #[{ on := 4, ground := Go.Ground.data }, { on := 9, ground := Go.Ground.data }], guard := none }) (v := ?_) rfl (by kernel_rfl) (fun _ _ _ h => h) (Or.inl ⟨by rfl, fun W hW => ?_⟩) hS ?_
  rotate_left
  · obtain ⟨hw1, hw2, hw3, hw4, hw5, hw6, hw7, hw8, hw9⟩ := hW; go_simp; (try go_bits); (try rw [if_pos (by omega)]); (try with_reducible rfl)
  (try simp only [Act.put, List.setIfInBounds_toArray, List.set_cons_succ, List.set_cons_zero])
  refine wpE_last (oi := { dst := some 4, op := Go.Op.assign (Go.Operand.tmp 262), type := 4, pos := "law.go:70", after := #[{ on := 10, ground := Go.Ground.data }, { on := 9, ground := Go.Ground.chain }, { on := 0, ground := Go.Ground.phase }, { on := 1, ground := Go.Ground.phase }, { on := 2, ground := Go.Ground.phase }, { on := 3, ground := Go.Ground.phase }, { on := 4, ground := Go.Ground.phase }, { on := 5, ground := Go.Ground.phase }, { on := 6, ground := Go.Ground.phase }, { on := 7, ground := Go.Ground.phase }, { on := 8, ground := Go.Ground.phase }, { on := 9, ground := Go.Ground.phase }, { on := 10, ground := Go.Ground.phase }], guard := none }) rfl (by kernel_rfl) (by kernel_rfl) (by rfl) (fun K hK => ?_)
  go_simp; (try go_bits); refine hK _ _ ?_; clear hK K
  clear hS
  go_wp2
  go_ret
  exact ⟨by first | rfl | simp, own1, _, _, _, ms, H3.out.1, H3.out.2.1, H3.out.2.2, Hd.out.2.2.2.2.ring xa hba, by omega⟩
end
end Go.Proofs.YtonhlgfgbdiapaaGreat
