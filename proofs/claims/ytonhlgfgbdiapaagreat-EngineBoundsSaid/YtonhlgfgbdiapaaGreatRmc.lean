import Derived.Test.YtonhlgfgbdiapaaGreatRmb
/- The engine: Step, for any way. -/
namespace Go.Proofs.YtonhlgfgbdiapaaGreat
set_option linter.unusedVariables false
set_option linter.unusedSimpArgs false
open Go.RowKit Go.Maps
set_option maxRecDepth 100000
def nextE (s : Eg) (o1 o2 : Bool) : Eg := if s.st = 1 then (if o1 && o2 then (if s.cp + 8 < s.rg 16 then { s with cp := s.cp + 8 } else { s with st := 2, cp := s.cp + 8 }) else { s with st := 3 }) else s
def atE (o1 o2 : Bool) : Nat := if o1 then (if o2 then 4 else 2) else 1
def whichE (s : Eg) (o1 o2 : Bool) : Nat := if s.st = 1 then (if (nextE s o1 o2).st = 1 then atE o1 o2 else if s.rg 40 = 0 then atE o1 o2 else atE o1 o2 + 10) else 0
def resE (s : Eg) (o1 o2 : Bool) (R : Nat → Int × Int × Bool) : Int × Int × Bool := if s.st = 1 then (if (nextE s o1 o2).st = 1 then (0, 0, false) else if s.rg 40 = 0 then (0, 0, false) else R (atE o1 o2)) else (0, 0, false)
theorem wrapN (a b : Nat) : (((a + b) % 18446744073709551616 : Nat) : Int) = IntKind.u64.wrap ((a : Int) + (b : Int)) := by
  simp [IntKind.wrap, IntKind.signed, IntKind.bits]
section
variable {own own' : Nat → Nat} {c e mp rb b : Nat} {way rd : Value} {w w' : World} {s s' : Eg}
/-- another block is written -/
theorem EngAt.other {lb : Nat} {ty : TypeId} {cs : Array Value} (h : EngAt own c w e mp way s) (hB : Blk w lb ty cs) (hne : e ≠ lb) (hU : Upd (· = lb) w w') : EngAt own c w' e mp way s := by
  obtain ⟨rb, dn, rd, hb, ho, ⟨hro, kv, hm, hk⟩, hd⟩ := h
  refine ⟨rb, dn, rd, hb.upd hU hne, ho, ⟨hro, kv, hm.upd hU (hB.ne_map hm), hk⟩, ?_⟩
  rcases hd with h | ⟨h1, fb, h2, h3, hfo, hfm⟩
  · exact .inl h
  · exact .inr ⟨h1, fb, h2, h3, hfo, hfm.upd hU (hB.ne_map hfm)⟩
/-- a step's way: what the two accesses, the memory and the message do; V: what holds of all that stands around -/
structure WayG (c e mp : Nat) (ty : TypeId) (rv : Value) (ac ms : Nat) (V : Nat → (Nat → Nat) → World → Prop) (C : Nat → Prop) (s : Eg) (o1 o2 : Bool) (f1 f2 v : Nat) (R : Nat → Int × Int × Bool) : Prop where
  m1 : ∀ w, (method 334 ty rv "citadel/engine.access").run Tryz.prog w = .ok (ac, rv) w
  m2 : ∀ w, (method 334 ty rv "citadel/engine.message").run Tryz.prog w = .ok (ms, rv) w
  c1 : ∀ args w, (callFunc ac args).run Tryz.prog w = .ok (.enter ac args) w
  c2 : ∀ args w, (callFunc ms args).run Tryz.prog w = .ok (.enter ms args) w
  hC : ¬ C c
  hV : ∀ i own w own' w', V i own w → Step (· = c) own w own' w' → V i own' w'
  b1 : f1 < 18446744073709551616
  b2 : f2 < 18446744073709551616
  bv : v < 18446744073709551616
  A1 : ∀ own w, V 0 own w → Calls Tryz.prog ac #[rv, .int .u64 (((s.rg 0 + s.cp) % 18446744073709551616 : Nat) : Int), .bool false] w fun x w' => x = .returned (.tuple #[.int .u64 (f1 : Int), .bool o1]) ∧ ∃ own', Step C own w own' w' ∧ V 1 own' w'
  A2 : o1 = true → ∀ own w, V 1 own w → Calls Tryz.prog ac #[rv, .int .u64 (((s.rg 8 + s.cp) % 18446744073709551616 : Nat) : Int), .bool true] w fun x w' => x = .returned (.tuple #[.int .u64 (f2 : Int), .bool o2]) ∧ ∃ own', Step C own w own' w' ∧ V 2 own' w'
  rd : o1 = true → o2 = true → ∀ own w, V 2 own w → Calls Tryz.prog 37 #[.pointer (some ⟨mp, 0, none⟩), .int .u64 (f1 : Int), .int .i64 8] w fun x w' => ∃ g, x = .returned (.tuple #[.int .u64 (v : Int), .bool g]) ∧ ∃ own', Step C own w own' w' ∧ V 3 own' w'
  wr : o1 = true → o2 = true → ∀ own w, V 3 own w → Calls Tryz.prog 40 #[.pointer (some ⟨mp, 0, none⟩), .int .u64 (f2 : Int), .int .i64 8, .int .u64 (v : Int)] w fun x w' => ∃ g, x = .returned (.bool g) ∧ ∃ own', Step C own w own' w' ∧ V 4 own' w'
  ms : ∀ i, i = atE o1 o2 → ∀ own w, V i own w → Calls Tryz.prog ms #[rv, .int .u64 (s.rg 40 : Int), .int .u64 (s.rg 48 : Int)] w fun x w' => x = .returned (.tuple #[.agg #[.int .i64 (R i).1, .int .i64 (R i).2.1], .bool (R i).2.2]) ∧ ∃ own', Step C own w own' w' ∧ V (i + 10) own' w'
/-- where a step stands -/
structure ES (V : Nat → (Nat → Nat) → World → Prop) (C : Nat → Prop) (own0 : Nat → Nat) (w0 : World) (own : Nat → Nat) (w : World) (c e mp lb : Nat) (way : Value) (s : Eg) (i : Nat) : Prop where
  st : Step (fun x => x = c ∨ C x) own0 w0 own w
  eg : EngAt own c w e mp way s
  v : V i own w
  bl : Blk w lb 47 #[.int .i64 0, .int .i64 0]
  ol : own lb = c
  ne : e ≠ lb
section
variable {V : Nat → (Nat → Nat) → World → Prop} {C : Nat → Prop} {own0 own1 : Nat → Nat} {w0 w1 : World} {lb i j : Nat}
theorem ES.call (h : ES V C own0 w0 own w c e mp lb way s i) (hC : ¬ C c) (hS : Step C own w own1 w1) (hv : V j own1 w1) : ES V C own0 w0 own1 w1 c e mp lb way s j :=
  ⟨h.st.trans (hS.mono (fun _ hx => .inr hx)), h.eg.step hS hC, hv, (hS.blk h.bl h.ol hC).1, (hS.blk h.bl h.ol hC).2, h.ne⟩
theorem ES.put (h : ES V C own0 w0 own w c e mp lb way s i) (hV : ∀ i own w own' w', V i own w → Step (· = c) own w own' w' → V i own' w') (k : Nat) (x : Value) (he : ∀ rb dn rd, egC mp way rb s'.st s'.cp dn rd = (egC mp way rb s.st s.cp dn rd).setIfInBounds k x) (hrg : s'.rg = s.rg) :
    ES V C own0 w0 own (w.setCell ⟨e, k, none⟩ x) c e mp lb way s' i := by
  obtain ⟨hS, hE⟩ := h.eg.put (s' := s') k x he hrg
  exact ⟨h.st.trans (hS.mono (fun _ hx => .inl hx)), hE, hV _ _ _ _ _ h.v hS, h.bl.upd ((Upd.refl (· = e) w).setCell (p := ⟨e, k, none⟩) (.inl rfl) _) (fun h' => h.ne h'.symm), h.ol, h.ne⟩
theorem ES.loc (h : ES V C own0 w0 own w c e mp lb way s i) : w.cell? ⟨lb, 0, none⟩ = some (.int .i64 0) ∧ w.cell? ⟨lb, 1, none⟩ = some (.int .i64 0) ∧ w.frozen? ⟨lb, 0, none⟩ = false ∧ w.frozen? ⟨lb, 1, none⟩ = false ∧ lb < w.heap.size :=
  ⟨h.bl.cell 0, h.bl.cell 1, h.bl.frozen 0, h.bl.frozen 1, h.bl.lt⟩
theorem ES.lset (h : ES V C own0 w0 own w c e mp lb way s i) (hV : ∀ i own w own' w', V i own w → Step (· = c) own w own' w' → V i own' w') (x y : Int) :
    Step (fun x => x = c ∨ C x) own0 w0 own ((w.setCell ⟨lb, 0, none⟩ (.int .i64 x)).setCell ⟨lb, 1, none⟩ (.int .i64 y)) ∧ EngAt own c ((w.setCell ⟨lb, 0, none⟩ (.int .i64 x)).setCell ⟨lb, 1, none⟩ (.int .i64 y)) e mp way s ∧ V i own ((w.setCell ⟨lb, 0, none⟩ (.int .i64 x)).setCell ⟨lb, 1, none⟩ (.int .i64 y)) ∧ Blk ((w.setCell ⟨lb, 0, none⟩ (.int .i64 x)).setCell ⟨lb, 1, none⟩ (.int .i64 y)) lb 47 #[.int .i64 x, .int .i64 y] := by
  have hU : Upd (· = lb) w ((w.setCell ⟨lb, 0, none⟩ (.int .i64 x)).setCell ⟨lb, 1, none⟩ (.int .i64 y)) := ((Upd.refl (· = lb) w).setCell (p := ⟨lb, 0, none⟩) (.inl rfl) _).setCell (p := ⟨lb, 1, none⟩) (.inl rfl) _
  have hS : Step (· = c) own w own ((w.setCell ⟨lb, 0, none⟩ (.int .i64 x)).setCell ⟨lb, 1, none⟩ (.int .i64 y)) := ⟨hU.mono (fun i _ hi => by rw [hi]; exact h.ol), fun _ _ => rfl⟩
  exact ⟨h.st.trans (hS.mono (fun _ hx => .inl hx)), h.eg.other h.bl h.ne hU, hV _ _ _ _ _ h.v hS, (h.bl.set_ 0 (.int .i64 x)).set_ 1 (.int .i64 y)⟩
theorem ES.drew (h : ES V C own0 w0 own w c e mp lb way s i) (hV : ∀ i own w own' w', V i own w → Step (· = c) own w own' w' → V i own' w') : ES V C own0 w0 own w.drew c e mp lb way s i :=
  ⟨h.st.trans ((Step.refl _ _ _).drew), h.eg.step ((Step.refl (fun _ => False) _ _).drew) (fun x => x), hV _ _ _ _ _ h.v ((Step.refl _ _ _).drew), h.bl, h.ol, h.ne⟩
theorem ES.alloc (h : EngAt own c w e mp way s) (hV : ∀ i own w own' w', V i own w → Step (· = c) own w own' w' → V i own' w') (hv : V i own w) (cs : Array Value) (hcs : cs = #[.int .i64 0, .int .i64 0]) : ES V C own w (ext own w c) (w.alloc (.cells cs 47)) c e mp w.heap.size way s i := by
  subst hcs
  have hst : ∀ D : Nat → Prop, Step D own w (ext own w c) (w.alloc (.cells #[.int .i64 0, .int .i64 0] 47)) := fun D => ⟨(Upd.refl _ _).alloc _, fun b hb => ext_old _ _ _ hb⟩
  exact ⟨hst _, h.step (hst (fun _ => False)) (fun x => x), hV _ _ _ _ _ hv (hst _), Blk.new _ _ _, ext_new _ _ _ (Nat.le_refl _), Nat.ne_of_lt h.cells.2.2.2.2.2.2⟩
end
set_option maxHeartbeats 4000000 in
theorem eng_StepG {ty : TypeId} {rv : Value} {ac ms : Nat} {V : Nat → (Nat → Nat) → World → Prop} {C : Nat → Prop} {o1 o2 : Bool} {f1 f2 v : Nat} {R : Nat → Int × Int × Bool}
    (h : EngAt own c w e mp (.iface ty rv) s) (hok : EgOk s) (H : s.st = 1 → WayG c e mp ty rv ac ms V C s o1 o2 f1 f2 v R) (hV : ∀ i own w own' w', V i own w → Step (· = c) own w own' w' → V i own' w') (hv : V 0 own w) :
    Calls Tryz.prog 17 #[.pointer (some ⟨e, 0, none⟩)] w fun x w' => x = .returned (.tuple #[.agg #[.int .i64 (resE s o1 o2 R).1, .int .i64 (resE s o1 o2 R).2.1], .bool (resE s o1 o2 R).2.2]) ∧
      ∃ own', Step (fun x => x = c ∨ C x) own w own' w' ∧ EngAt own' c w' e mp (.iface ty rv) (nextE s o1 o2) ∧ V (whichE s o1 o2) own' w' := by
  have hE0 := ES.alloc (C := C) h hV hv _ rfl
  have hB := eng_Busy hE0.eg
  by_cases hs : s.st = 1
  · have HG := H hs
    rw [decide_eq_true hs] at hB
    have HB := Lib.hid hB
    have hE1 := hE0.drew hV
    have HS := Lib.hid (eng_src hE1.eg)
    have hA := HG.A1 _ _ hE1.v
    rw [wrapN] at hA
    have HA := Lib.hid hA
    obtain ⟨k0, k1, k3, k4, z3, z4, kl⟩ := hE0.eg.cells
    have hcp := hok.cp
    have hr0 := hok.rg 0
    have HE := Lib.hid hE1
    clear H h hE0 hE1 hB hA
    have hS : (fun (W' : World) => W'.cell? ⟨e, 1, none⟩ = some (.iface ty rv) ∧ W'.cell? ⟨e, 4, none⟩ = some (.int .u64 (s.cp : Int))) (w.alloc (.cells #[.int .i64 0, .int .i64 0] 47)) := ⟨k1, k4⟩
    go_enter Tryz.func17, Tryz.ntmps17
    go_wp2_with fail
    ((with_reducible refine HB.out.mono ?_); rintro x wz ⟨rfl, rfl⟩)
    clear HB
    go_wp2_with fail
    refine wpE_region (S := fun (W' : World) => W'.cell? ⟨e, 1, none⟩ = some (.iface ty rv) ∧ W'.cell? ⟨e, 4, none⟩ = some (.int .u64 (s.cp : Int))) (s := 18) (by kernel_rfl) ?_
    have hS : (fun (W' : World) => W'.cell? ⟨e, 1, none⟩ = some (.iface ty rv) ∧ W'.cell? ⟨e, 4, none⟩ = some (.int .u64 (s.cp : Int))) _ := hS
    refine wpE_take (i := 0) (oi := { dst := some 14, op := Go.Op.move (Go.Operand.tmp 0), type := 42, pos := "engine.go:174", after := #[], guard := none }) (v := ?_) rfl (by kernel_rfl) (fun _ _ _ h => h) (Or.inl ⟨by rfl, fun W hW => ?_⟩) hS ?_
    rotate_left
    · obtain ⟨hw1, hw2⟩ := hW; go_simp; (try go_bits); (try rw [if_pos (by omega)]); (try with_reducible rfl)
    (try simp only [Act.put, List.setIfInBounds_toArray, List.set_cons_succ, List.set_cons_zero])
    refine wpE_take (i := 1) (oi := { dst := some 15, op := Go.Op.nilCheck (Go.Operand.tmp 14), type := 0, pos := "engine.go:174", after := #[{ on := 0, ground := Go.Ground.data }], guard := none }) (v := ?_) rfl (by kernel_rfl) (fun _ _ _ h => h) (Or.inl ⟨by rfl, fun W hW => ?_⟩) hS ?_
    rotate_left
    · obtain ⟨hw1, hw2⟩ := hW; go_simp; (try go_bits); (try rw [if_pos (by omega)]); (try with_reducible rfl)
    (try simp only [Act.put, List.setIfInBounds_toArray, List.set_cons_succ, List.set_cons_zero])
    refine wpE_take (i := 2) (oi := { dst := some 16, op := Go.Op.fieldAddr 123 (Go.Operand.tmp 15) 1, type := 0, pos := "engine.go:174", after := #[{ on := 1, ground := Go.Ground.data }], guard := none }) (v := ?_) rfl (by kernel_rfl) (fun _ _ _ h => h) (Or.inl ⟨by rfl, fun W hW => ?_⟩) hS ?_
    rotate_left
    · obtain ⟨hw1, hw2⟩ := hW; go_simp; (try go_bits); (try rw [if_pos (by omega)]); (try with_reducible rfl)
    (try simp only [Act.put, List.setIfInBounds_toArray, List.set_cons_succ, List.set_cons_zero])
    refine wpE_take (i := 3) (oi := { dst := some 17, op := Go.Op.load 108 (Go.Operand.tmp 16), type := 108, pos := "engine.go:174", after := #[{ on := 2, ground := Go.Ground.data }], guard := none }) (v := ?_) rfl (by kernel_rfl) (fun _ _ _ h => h) (Or.inl ⟨by rfl, fun W hW => ?_⟩) hS ?_
    rotate_left
    · obtain ⟨hw1, hw2⟩ := hW; go_simp; (try go_bits); (try rw [if_pos (by omega)]); (try with_reducible rfl)
    (try simp only [Act.put, List.setIfInBounds_toArray, List.set_cons_succ, List.set_cons_zero])
    refine wpE_take (i := 4) (oi := { dst := some 18, op := Go.Op.move (Go.Operand.tmp 0), type := 42, pos := "engine.go:174", after := #[], guard := none }) (v := ?_) rfl (by kernel_rfl) (fun _ _ _ h => h) (Or.inl ⟨by rfl, fun W hW => ?_⟩) hS ?_
    rotate_left
    · obtain ⟨hw1, hw2⟩ := hW; go_simp; (try go_bits); (try rw [if_pos (by omega)]); (try with_reducible rfl)
    (try simp only [Act.put, List.setIfInBounds_toArray, List.set_cons_succ, List.set_cons_zero])
    refine wpE_take (i := 6) (oi := { dst := some 20, op := Go.Op.move (Go.Operand.tmp 0), type := 42, pos := "engine.go:174", after := #[], guard := none }) (v := ?_) rfl (by kernel_rfl) (fun _ _ _ h => h) (Or.inl ⟨by rfl, fun W hW => ?_⟩) hS ?_
    rotate_left
    · obtain ⟨hw1, hw2⟩ := hW; go_simp; (try go_bits); (try rw [if_pos (by omega)]); (try with_reducible rfl)
    (try simp only [Act.put, List.setIfInBounds_toArray, List.set_cons_succ, List.set_cons_zero])
    refine wpE_take (i := 7) (oi := { dst := some 21, op := Go.Op.nilCheck (Go.Operand.tmp 20), type := 0, pos := "engine.go:174", after := #[{ on := 6, ground := Go.Ground.data }], guard := none }) (v := ?_) rfl (by kernel_rfl) (fun _ _ _ h => h) (Or.inl ⟨by rfl, fun W hW => ?_⟩) hS ?_
    rotate_left
    · obtain ⟨hw1, hw2⟩ := hW; go_simp; (try go_bits); (try rw [if_pos (by omega)]); (try with_reducible rfl)
    (try simp only [Act.put, List.setIfInBounds_toArray, List.set_cons_succ, List.set_cons_zero])
    refine wpE_take (i := 8) (oi := { dst := some 22, op := Go.Op.fieldAddr 123 (Go.Operand.tmp 21) 4, type := 0, pos := "engine.go:174", after := #[{ on := 7, ground := Go.Ground.data }], guard := none }) (v := ?_) rfl (by kernel_rfl) (fun _ _ _ h => h) (Or.inl ⟨by rfl, fun W hW => ?_⟩) hS ?_
    rotate_left
    · obtain ⟨hw1, hw2⟩ := hW; go_simp; (try go_bits); (try rw [if_pos (by omega)]); (try with_reducible rfl)
    (try simp only [Act.put, List.setIfInBounds_toArray, List.set_cons_succ, List.set_cons_zero])
    refine wpE_take (i := 9) (oi := { dst := some 23, op := Go.Op.load 23 (Go.Operand.tmp 22), type := 23, pos := "engine.go:174", after := #[{ on := 8, ground := Go.Ground.data }], guard := none }) (v := ?_) rfl (by kernel_rfl) (fun _ _ _ h => h) (Or.inl ⟨by rfl, fun W hW => ?_⟩) hS ?_
    rotate_left
    · obtain ⟨hw1, hw2⟩ := hW; go_simp; (try go_bits); (try rw [if_pos (by omega)]); (try with_reducible rfl)
    (try simp only [Act.put, List.setIfInBounds_toArray, List.set_cons_succ, List.set_cons_zero])
    refine wpE_take (i := 11) (oi := { dst := some 25, op := Go.Op.nilCheck (Go.Operand.tmp 17), type := 108, pos := "engine.go:174", after := #[{ on := 3, ground := Go.Ground.data }], guard := none }) (v := ?_) rfl (by kernel_rfl) (fun _ _ _ h => h) (Or.inl ⟨by rfl, fun W hW => ?_⟩) hS ?_
    rotate_left
    · obtain ⟨hw1, hw2⟩ := hW; go_simp; (try go_bits); (try rw [if_pos (by omega)]); (try with_reducible rfl)
    (try simp only [Act.put, List.setIfInBounds_toArray, List.set_cons_succ, List.set_cons_zero])
    refine wpE_take (i := 12) (oi := { dst := some 26, op := Go.Op.move (Go.Operand.tmp 17), type := 108, pos := "engine.go:174", after := #[{ on := 3, ground := Go.Ground.data }, { on := 11, ground := Go.Ground.data }], guard := none }) (v := ?_) rfl (by kernel_rfl) (fun _ _ _ h => h) (Or.inl ⟨by rfl, fun W hW => ?_⟩) hS ?_
    rotate_left
    · obtain ⟨hw1, hw2⟩ := hW; go_simp; (try go_bits); (try rw [if_pos (by omega)]); (try with_reducible rfl)
    (try simp only [Act.put, List.setIfInBounds_toArray, List.set_cons_succ, List.set_cons_zero])
    refine wpE_only (i := 5) (oi := { dst := some 19, op := Go.Op.call { callee := Go.Callee.value (Go.Operand.func 38), args := #[Go.Operand.tmp 18], argTypes := #[42] }, type := 23, pos := "engine.go:174", after := #[{ on := 4, ground := Go.Ground.data }], guard := none }) rfl (by kernel_rfl) (by rfl) (fun K hK => ?_)
    go_simp; refine HS.out.mono ?_; rintro x wz ⟨rfl, rfl⟩; refine hK _ _ hS ?_; clear hK K
    (try simp only [Act.put, List.setIfInBounds_toArray, List.set_cons_succ, List.set_cons_zero])
    refine wpE_take (i := 10) (oi := { dst := some 24, op := Go.Op.binOp Go.BinOp.add 23 (Go.Operand.tmp 19) (Go.Operand.tmp 23) 23, type := 23, pos := "engine.go:174", after := #[{ on := 5, ground := Go.Ground.data }, { on := 9, ground := Go.Ground.data }], guard := none }) (v := ?_) rfl (by kernel_rfl) (fun _ _ _ h => h) (Or.inl ⟨by rfl, fun W hW => ?_⟩) hS ?_
    rotate_left
    · obtain ⟨hw1, hw2⟩ := hW; go_simp; (try go_bits); (try rw [if_pos (by omega)]); (try with_reducible rfl)
    (try simp only [Act.put, List.setIfInBounds_toArray, List.set_cons_succ, List.set_cons_zero])
    refine wpE_only (i := 13) (oi := { dst := some 27, op := Go.Op.call { callee := Go.Callee.invoke (Go.Operand.tmp 26) "citadel/engine.access", args := #[Go.Operand.tmp 24, Go.Operand.const (Go.Value.bool false)], argTypes := #[23, 4] }, type := 52, pos := "engine.go:174", after := #[{ on := 12, ground := Go.Ground.data }, { on := 10, ground := Go.Ground.data }, { on := 5, ground := Go.Ground.chain }], guard := none }) rfl (by kernel_rfl) (by rfl) (fun K hK => ?_)
    go_simp; rw [HG.m1]; simp only [Result.andThen]; rw [HG.c1, Oper.upon_enter]; refine HA.out.mono ?_; rintro x w2 ⟨rfl, own2, hS2, hV2⟩
    have hE2 := HE.out.call HG.hC hS2 hV2
    obtain ⟨y0, y1, y3, y4, _⟩ := hE2.eg.cells
    have HE2 := Lib.hid hE2
    clear HE HA hS2 hV2 hE2 hS
    have hS : (fun (W' : World) => W'.cell? ⟨e, 1, none⟩ = some (.iface ty rv) ∧ W'.cell? ⟨e, 4, none⟩ = some (.int .u64 (s.cp : Int))) w2 := ⟨y1, y4⟩
    refine hK _ _ hS ?_; clear hK K
    (try simp only [Act.put, List.setIfInBounds_toArray, List.set_cons_succ, List.set_cons_zero])
    refine wpE_take (i := 14) (oi := { dst := some 13, op := Go.Op.move (Go.Operand.tmp 27), type := 52, pos := "engine.go:174", after := #[{ on := 13, ground := Go.Ground.data }], guard := none }) (v := ?_) rfl (by kernel_rfl) (fun _ _ _ h => h) (Or.inl ⟨by rfl, fun W hW => ?_⟩) hS ?_
    rotate_left
    · obtain ⟨hw1, hw2⟩ := hW; go_simp; (try go_bits); (try rw [if_pos (by omega)]); (try with_reducible rfl)
    (try simp only [Act.put, List.setIfInBounds_toArray, List.set_cons_succ, List.set_cons_zero])
    refine wpE_take (i := 15) (oi := { dst := some 28, op := Go.Op.extract (Go.Operand.tmp 13) 0, type := 23, pos := "engine.go:174", after := #[{ on := 14, ground := Go.Ground.data }], guard := none }) (v := ?_) rfl (by kernel_rfl) (fun _ _ _ h => h) (Or.inl ⟨by rfl, fun W hW => ?_⟩) hS ?_
    rotate_left
    · obtain ⟨hw1, hw2⟩ := hW; go_simp; (try go_bits); (try rw [if_pos (by omega)]); (try with_reducible rfl)
    (try simp only [Act.put, List.setIfInBounds_toArray, List.set_cons_succ, List.set_cons_zero])
    refine wpE_take (i := 16) (oi := { dst := some 29, op := Go.Op.extract (Go.Operand.tmp 13) 1, type := 4, pos := "engine.go:174", after := #[{ on := 14, ground := Go.Ground.data }, { on := 17, ground := Go.Ground.gcOnly Go.Departure.lateStores }], guard := none }) (v := ?_) rfl (by kernel_rfl) (fun _ _ _ h => h) (Or.inl ⟨by rfl, fun W hW => ?_⟩) hS ?_
    rotate_left
    · obtain ⟨hw1, hw2⟩ := hW; go_simp; (try go_bits); (try rw [if_pos (by omega)]); (try with_reducible rfl)
    (try simp only [Act.put, List.setIfInBounds_toArray, List.set_cons_succ, List.set_cons_zero])
    refine wpE_only (i := 17) (oi := { dst := some 4, op := Go.Op.assign (Go.Operand.tmp 28), type := 23, pos := "engine.go:174", after := #[{ on := 15, ground := Go.Ground.data }, { on := 13, ground := Go.Ground.chain }, { on := 0, ground := Go.Ground.phase }, { on := 1, ground := Go.Ground.phase }, { on := 2, ground := Go.Ground.phase }, { on := 3, ground := Go.Ground.phase }, { on := 4, ground := Go.Ground.phase }, { on := 5, ground := Go.Ground.phase }, { on := 6, ground := Go.Ground.phase }, { on := 7, ground := Go.Ground.phase }, { on := 8, ground := Go.Ground.phase }, { on := 9, ground := Go.Ground.phase }, { on := 10, ground := Go.Ground.phase }, { on := 11, ground := Go.Ground.phase }, { on := 12, ground := Go.Ground.phase }, { on := 13, ground := Go.Ground.phase }, { on := 14, ground := Go.Ground.phase }, { on := 15, ground := Go.Ground.phase }, { on := 16, ground := Go.Ground.textOnly Go.Departure.lateStores }], guard := none }) rfl (by kernel_rfl) (by rfl) (fun K hK => ?_)
    go_simp; (try go_bits); refine hK _ _ hS ?_; clear hK K
    (try simp only [Act.put, List.setIfInBounds_toArray, List.set_cons_succ, List.set_cons_zero])
    refine wpE_last (oi := { dst := some 5, op := Go.Op.assign (Go.Operand.tmp 29), type := 4, pos := "engine.go:174", after := #[{ on := 16, ground := Go.Ground.data }, { on := 17, ground := Go.Ground.chain }, { on := 0, ground := Go.Ground.phase }, { on := 1, ground := Go.Ground.phase }, { on := 2, ground := Go.Ground.phase }, { on := 3, ground := Go.Ground.phase }, { on := 4, ground := Go.Ground.phase }, { on := 5, ground := Go.Ground.phase }, { on := 6, ground := Go.Ground.phase }, { on := 7, ground := Go.Ground.phase }, { on := 8, ground := Go.Ground.phase }, { on := 9, ground := Go.Ground.phase }, { on := 10, ground := Go.Ground.phase }, { on := 11, ground := Go.Ground.phase }, { on := 12, ground := Go.Ground.phase }, { on := 13, ground := Go.Ground.phase }, { on := 14, ground := Go.Ground.phase }, { on := 15, ground := Go.Ground.phase }, { on := 16, ground := Go.Ground.phase }, { on := 17, ground := Go.Ground.phase }], guard := none }) rfl (by kernel_rfl) (by kernel_rfl) (by rfl) (fun K hK => ?_)
    go_simp; (try go_bits); refine hK _ _ ?_; clear hK K
    clear hS HS
    have hE := HE2.out
    clear HE2 y0 y1 y3 y4 k0 k1 k3 k4 z3 z4 kl
    cases o1 with
    | false =>
      have hnx : nextE s false o2 = { s with st := 3 } := by unfold nextE; rw [if_pos hs]; rfl
      have hp1 := hE.put (s' := { s with st := 2 }) hV 3 (.int .u64 2) (fun _ _ _ => rfl) rfl
      have hp2 := hp1.put (s' := { s with st := 3 }) hV 3 (.int .u64 3) (fun _ _ _ => rfl) rfl
      obtain ⟨k0, k1, k3, k4, z3, z4, kl⟩ := hE.eg.cells
      obtain ⟨l0, l1, g0, g1, ll⟩ := hE.loc
      have hne := hE.ne
      generalize w.heap.size = lb at *
      have HM := Lib.hid (eng_msi hp2.eg)
      by_cases h40 : s.rg 40 = 0
      · have e40 : ((s.rg 40 : Int) == 0) = true := by rw [h40]; rfl
        have HX := Lib.hid (show resE s false o2 R = (0, 0, false) ∧ whichE s false o2 = 1 ∧ nextE s false o2 = { s with st := 3 } from ⟨by simp [resE, hs, hnx, h40], by simp [whichE, hs, hnx, h40, atE], hnx⟩)
        have HP := Lib.hid (hp2.lset hV 0 0)
        clear hE hp1 hp2 h40 hs hnx
        go_wp2_with fail
        ((with_reducible refine HM.out.mono ?_); rintro x wz ⟨rfl, rfl⟩)
        clear HM
        go_wp2
        refine bodyPost_ret (results_cell_tmp_row rfl _ _ lb 47 #[.int .i64 0, .int .i64 0] _ rfl HP.out.2.2.2 Tryz.underlying47 rfl (by kernel_rfl)) rfl ?_
        rw [HX.out.1, HX.out.2.1, HX.out.2.2]
        exact ⟨rfl, _, HP.out.1, HP.out.2.1, HP.out.2.2.1⟩
      · have e40 : ((s.rg 40 : Int) == 0) = false := by simp; omega
        have HX := Lib.hid (show resE s false o2 R = R 1 ∧ whichE s false o2 = 1 + 10 ∧ nextE s false o2 = { s with st := 3 } from ⟨by simp [resE, hs, hnx, h40, atE], by simp [whichE, hs, hnx, h40, atE], hnx⟩)
        have hpd := hp2.drew hV
        have HM2 := Lib.hid (eng_msi hpd.eg)
        have HD := Lib.hid (eng_data hpd.eg)
        have HW := Lib.hid (HG.ms 1 rfl _ _ hpd.v)
        obtain ⟨y0, y1, y3, y4, _⟩ := hpd.eg.cells
        have HP := Lib.hid hpd
        clear hE hp1 hp2 hpd h40 hs hnx
        go_wp2_with fail
        ((with_reducible refine HM.out.mono ?_); rintro x wz ⟨rfl, rfl⟩)
        clear HM
        go_wp2_with fail
        refine wpE_region (S := fun (W' : World) => W'.cell? ⟨e, 1, none⟩ = some (.iface ty rv)) (s := 14) (by kernel_rfl) ?_
        have hS : (fun (W' : World) => W'.cell? ⟨e, 1, none⟩ = some (.iface ty rv)) _ := y1
        refine wpE_take (i := 0) (oi := { dst := some 92, op := Go.Op.move (Go.Operand.tmp 0), type := 42, pos := "engine.go:192", after := #[], guard := none }) (v := ?_) rfl (by kernel_rfl) (fun _ _ _ h => h) (Or.inl ⟨by rfl, fun W hW => ?_⟩) hS ?_
        rotate_left
        · (have hw1 : W.cell? ⟨e, 1, none⟩ = some (.iface ty rv) := hW); go_simp; (try go_bits); (try rw [if_pos (by omega)]); (try with_reducible rfl)
        (try simp only [Act.put, List.setIfInBounds_toArray, List.set_cons_succ, List.set_cons_zero])
        refine wpE_take (i := 1) (oi := { dst := some 93, op := Go.Op.nilCheck (Go.Operand.tmp 92), type := 0, pos := "engine.go:192", after := #[{ on := 0, ground := Go.Ground.data }], guard := none }) (v := ?_) rfl (by kernel_rfl) (fun _ _ _ h => h) (Or.inl ⟨by rfl, fun W hW => ?_⟩) hS ?_
        rotate_left
        · (have hw1 : W.cell? ⟨e, 1, none⟩ = some (.iface ty rv) := hW); go_simp; (try go_bits); (try rw [if_pos (by omega)]); (try with_reducible rfl)
        (try simp only [Act.put, List.setIfInBounds_toArray, List.set_cons_succ, List.set_cons_zero])
        refine wpE_take (i := 2) (oi := { dst := some 94, op := Go.Op.fieldAddr 123 (Go.Operand.tmp 93) 1, type := 0, pos := "engine.go:192", after := #[{ on := 1, ground := Go.Ground.data }], guard := none }) (v := ?_) rfl (by kernel_rfl) (fun _ _ _ h => h) (Or.inl ⟨by rfl, fun W hW => ?_⟩) hS ?_
        rotate_left
        · (have hw1 : W.cell? ⟨e, 1, none⟩ = some (.iface ty rv) := hW); go_simp; (try go_bits); (try rw [if_pos (by omega)]); (try with_reducible rfl)
        (try simp only [Act.put, List.setIfInBounds_toArray, List.set_cons_succ, List.set_cons_zero])
        refine wpE_take (i := 3) (oi := { dst := some 95, op := Go.Op.load 108 (Go.Operand.tmp 94), type := 108, pos := "engine.go:192", after := #[{ on := 2, ground := Go.Ground.data }], guard := none }) (v := ?_) rfl (by kernel_rfl) (fun _ _ _ h => h) (Or.inl ⟨by rfl, fun W hW => ?_⟩) hS ?_
        rotate_left
        · (have hw1 : W.cell? ⟨e, 1, none⟩ = some (.iface ty rv) := hW); go_simp; (try go_bits); (try rw [if_pos (by omega)]); (try with_reducible rfl)
        (try simp only [Act.put, List.setIfInBounds_toArray, List.set_cons_succ, List.set_cons_zero])
        refine wpE_take (i := 4) (oi := { dst := some 96, op := Go.Op.move (Go.Operand.tmp 0), type := 42, pos := "engine.go:192", after := #[], guard := none }) (v := ?_) rfl (by kernel_rfl) (fun _ _ _ h => h) (Or.inl ⟨by rfl, fun W hW => ?_⟩) hS ?_
        rotate_left
        · (have hw1 : W.cell? ⟨e, 1, none⟩ = some (.iface ty rv) := hW); go_simp; (try go_bits); (try rw [if_pos (by omega)]); (try with_reducible rfl)
        (try simp only [Act.put, List.setIfInBounds_toArray, List.set_cons_succ, List.set_cons_zero])
        refine wpE_take (i := 6) (oi := { dst := some 98, op := Go.Op.move (Go.Operand.tmp 0), type := 42, pos := "engine.go:192", after := #[], guard := none }) (v := ?_) rfl (by kernel_rfl) (fun _ _ _ h => h) (Or.inl ⟨by rfl, fun W hW => ?_⟩) hS ?_
        rotate_left
        · (have hw1 : W.cell? ⟨e, 1, none⟩ = some (.iface ty rv) := hW); go_simp; (try go_bits); (try rw [if_pos (by omega)]); (try with_reducible rfl)
        (try simp only [Act.put, List.setIfInBounds_toArray, List.set_cons_succ, List.set_cons_zero])
        refine wpE_take (i := 8) (oi := { dst := some 100, op := Go.Op.nilCheck (Go.Operand.tmp 95), type := 108, pos := "engine.go:192", after := #[{ on := 3, ground := Go.Ground.data }], guard := none }) (v := ?_) rfl (by kernel_rfl) (fun _ _ _ h => h) (Or.inl ⟨by rfl, fun W hW => ?_⟩) hS ?_
        rotate_left
        · (have hw1 : W.cell? ⟨e, 1, none⟩ = some (.iface ty rv) := hW); go_simp; (try go_bits); (try rw [if_pos (by omega)]); (try with_reducible rfl)
        (try simp only [Act.put, List.setIfInBounds_toArray, List.set_cons_succ, List.set_cons_zero])
        refine wpE_take (i := 9) (oi := { dst := some 101, op := Go.Op.move (Go.Operand.tmp 95), type := 108, pos := "engine.go:192", after := #[{ on := 3, ground := Go.Ground.data }, { on := 8, ground := Go.Ground.data }], guard := none }) (v := ?_) rfl (by kernel_rfl) (fun _ _ _ h => h) (Or.inl ⟨by rfl, fun W hW => ?_⟩) hS ?_
        rotate_left
        · (have hw1 : W.cell? ⟨e, 1, none⟩ = some (.iface ty rv) := hW); go_simp; (try go_bits); (try rw [if_pos (by omega)]); (try with_reducible rfl)
        (try simp only [Act.put, List.setIfInBounds_toArray, List.set_cons_succ, List.set_cons_zero])
        refine wpE_only (i := 5) (oi := { dst := some 97, op := Go.Op.call { callee := Go.Callee.value (Go.Operand.func 42), args := #[Go.Operand.tmp 96], argTypes := #[42] }, type := 23, pos := "engine.go:192", after := #[{ on := 4, ground := Go.Ground.data }], guard := none }) rfl (by kernel_rfl) (by rfl) (fun K hK => ?_)
        go_simp; refine HM2.out.mono ?_; rintro x wz ⟨rfl, rfl⟩; refine hK _ _ hS ?_; clear hK K
        (try simp only [Act.put, List.setIfInBounds_toArray, List.set_cons_succ, List.set_cons_zero])
        refine wpE_only (i := 7) (oi := { dst := some 99, op := Go.Op.call { callee := Go.Callee.value (Go.Operand.func 43), args := #[Go.Operand.tmp 98], argTypes := #[42] }, type := 23, pos := "engine.go:192", after := #[{ on := 6, ground := Go.Ground.data }, { on := 5, ground := Go.Ground.chain }], guard := none }) rfl (by kernel_rfl) (by rfl) (fun K hK => ?_)
        go_simp; refine HD.out.mono ?_; rintro x wz ⟨rfl, rfl⟩; refine hK _ _ hS ?_; clear hK K
        (try simp only [Act.put, List.setIfInBounds_toArray, List.set_cons_succ, List.set_cons_zero])
        refine wpE_only (i := 10) (oi := { dst := some 102, op := Go.Op.call { callee := Go.Callee.invoke (Go.Operand.tmp 101) "citadel/engine.message", args := #[Go.Operand.tmp 97, Go.Operand.tmp 99], argTypes := #[23, 23] }, type := 61, pos := "engine.go:192", after := #[{ on := 9, ground := Go.Ground.data }, { on := 5, ground := Go.Ground.data }, { on := 7, ground := Go.Ground.data }, { on := 7, ground := Go.Ground.chain }], guard := none }) rfl (by kernel_rfl) (by rfl) (fun K hK => ?_)
        go_simp; rw [HG.m2]; simp only [Result.andThen]; rw [HG.c2, Oper.upon_enter]; refine HW.out.mono ?_; rintro x w9 ⟨rfl, own9, hS9, hV9⟩
        have hE9 := HP.out.call HG.hC hS9 hV9
        obtain ⟨q0, q1, q3, q4, _⟩ := hE9.eg.cells
        obtain ⟨l0, l1, g0, g1, ll⟩ := hE9.loc
        have HE9 := Lib.hid (hE9.lset hV (R 1).1 (R 1).2.1)
        clear HP HW HM2 HD hS9 hV9 hE9 hS
        have hS : (fun (W' : World) => W'.cell? ⟨e, 1, none⟩ = some (.iface ty rv)) w9 := q1
        refine hK _ _ hS ?_; clear hK K
        (try simp only [Act.put, List.setIfInBounds_toArray, List.set_cons_succ, List.set_cons_zero])
        refine wpE_take (i := 11) (oi := { dst := some 103, op := Go.Op.extract (Go.Operand.tmp 102) 0, type := 47, pos := "engine.go:192", after := #[{ on := 10, ground := Go.Ground.data }], guard := none }) (v := ?_) rfl (by kernel_rfl) (fun _ _ _ h => h) (Or.inl ⟨by rfl, fun W hW => ?_⟩) hS ?_
        rotate_left
        · (have hw1 : W.cell? ⟨e, 1, none⟩ = some (.iface ty rv) := hW); go_simp; (try go_bits); (try rw [if_pos (by omega)]); (try with_reducible rfl)
        (try simp only [Act.put, List.setIfInBounds_toArray, List.set_cons_succ, List.set_cons_zero])
        refine wpE_take (i := 12) (oi := { dst := some 104, op := Go.Op.extract (Go.Operand.tmp 102) 1, type := 4, pos := "engine.go:192", after := #[{ on := 10, ground := Go.Ground.data }], guard := none }) (v := ?_) rfl (by kernel_rfl) (fun _ _ _ h => h) (Or.inl ⟨by rfl, fun W hW => ?_⟩) hS ?_
        rotate_left
        · (have hw1 : W.cell? ⟨e, 1, none⟩ = some (.iface ty rv) := hW); go_simp; (try go_bits); (try rw [if_pos (by omega)]); (try with_reducible rfl)
        (try simp only [Act.put, List.setIfInBounds_toArray, List.set_cons_succ, List.set_cons_zero])
        refine wpE_only (i := 13) (oi := { dst := none, op := Go.Op.store 47 (Go.Operand.tmp 2) (Go.Operand.tmp 103), type := 0, pos := "engine.go:192", after := #[{ on := 11, ground := Go.Ground.data }, { on := 10, ground := Go.Ground.chain }, { on := 0, ground := Go.Ground.phase }, { on := 1, ground := Go.Ground.phase }, { on := 2, ground := Go.Ground.phase }, { on := 3, ground := Go.Ground.phase }, { on := 4, ground := Go.Ground.phase }, { on := 5, ground := Go.Ground.phase }, { on := 6, ground := Go.Ground.phase }, { on := 7, ground := Go.Ground.phase }, { on := 8, ground := Go.Ground.phase }, { on := 9, ground := Go.Ground.phase }, { on := 10, ground := Go.Ground.phase }, { on := 11, ground := Go.Ground.phase }, { on := 12, ground := Go.Ground.phase }], guard := none }) rfl (by kernel_rfl) (by rfl) (fun K hK => ?_)
        go_simp
        have hS : (fun (W' : World) => W'.cell? ⟨e, 1, none⟩ = some (.iface ty rv)) ((w9.setCell ⟨lb, 0, none⟩ (.int .i64 (R 1).1)).setCell ⟨lb, 1, none⟩ (.int .i64 (R 1).2.1)) := by show World.cell? _ _ = _; go_simp
        refine hK _ _ hS ?_; clear hK K
        (try simp only [Act.put, List.setIfInBounds_toArray, List.set_cons_succ, List.set_cons_zero])
        refine wpE_last (oi := { dst := some 3, op := Go.Op.assign (Go.Operand.tmp 104), type := 4, pos := "engine.go:192", after := #[{ on := 12, ground := Go.Ground.data }, { on := 13, ground := Go.Ground.chain }, { on := 0, ground := Go.Ground.phase }, { on := 1, ground := Go.Ground.phase }, { on := 2, ground := Go.Ground.phase }, { on := 3, ground := Go.Ground.phase }, { on := 4, ground := Go.Ground.phase }, { on := 5, ground := Go.Ground.phase }, { on := 6, ground := Go.Ground.phase }, { on := 7, ground := Go.Ground.phase }, { on := 8, ground := Go.Ground.phase }, { on := 9, ground := Go.Ground.phase }, { on := 10, ground := Go.Ground.phase }, { on := 11, ground := Go.Ground.phase }, { on := 12, ground := Go.Ground.phase }, { on := 13, ground := Go.Ground.phase }], guard := none }) rfl (by kernel_rfl) (by kernel_rfl) (by rfl) (fun K hK => ?_)
        go_simp; (try go_bits); refine hK _ _ ?_; clear hK K
        go_wp2
        refine bodyPost_ret (results_cell_tmp_row rfl _ _ lb 47 #[.int .i64 (R 1).1, .int .i64 (R 1).2.1] _ rfl HE9.out.2.2.2 Tryz.underlying47 rfl (by kernel_rfl)) rfl ?_
        rw [HX.out.1, HX.out.2.1, HX.out.2.2]
        exact ⟨rfl, _, HE9.out.1, HE9.out.2.1, HE9.out.2.2.1⟩
    | true =>
      have hEd := hE.drew hV
      have HS := Lib.hid (eng_dst hEd.eg)
      have hA := HG.A2 rfl _ _ hEd.v
      rw [wrapN] at hA
      have HA := Lib.hid hA
      obtain ⟨k0, k1, k3, k4, z3, z4, kl⟩ := hE.eg.cells
      have hr8 := hok.rg 8
      have HE := Lib.hid hEd
      clear hE hEd hA hS
      have hS : (fun (W' : World) => W'.cell? ⟨e, 1, none⟩ = some (.iface ty rv) ∧ W'.cell? ⟨e, 4, none⟩ = some (.int .u64 (s.cp : Int))) w2 := ⟨k1, k4⟩
      go_wp2_with fail
      refine wpE_region (S := fun (W' : World) => W'.cell? ⟨e, 1, none⟩ = some (.iface ty rv) ∧ W'.cell? ⟨e, 4, none⟩ = some (.int .u64 (s.cp : Int))) (s := 18) (by kernel_rfl) ?_
      have hS : (fun (W' : World) => W'.cell? ⟨e, 1, none⟩ = some (.iface ty rv) ∧ W'.cell? ⟨e, 4, none⟩ = some (.int .u64 (s.cp : Int))) _ := hS
      refine wpE_take (i := 0) (oi := { dst := some 32, op := Go.Op.move (Go.Operand.tmp 0), type := 42, pos := "engine.go:177", after := #[], guard := none }) (v := ?_) rfl (by kernel_rfl) (fun _ _ _ h => h) (Or.inl ⟨by rfl, fun W hW => ?_⟩) hS ?_
      rotate_left
      · obtain ⟨hw1, hw2⟩ := hW; go_simp; (try go_bits); (try rw [if_pos (by omega)]); (try with_reducible rfl)
      (try simp only [Act.put, List.setIfInBounds_toArray, List.set_cons_succ, List.set_cons_zero])
      refine wpE_take (i := 1) (oi := { dst := some 33, op := Go.Op.nilCheck (Go.Operand.tmp 32), type := 0, pos := "engine.go:177", after := #[{ on := 0, ground := Go.Ground.data }], guard := none }) (v := ?_) rfl (by kernel_rfl) (fun _ _ _ h => h) (Or.inl ⟨by rfl, fun W hW => ?_⟩) hS ?_
      rotate_left
      · obtain ⟨hw1, hw2⟩ := hW; go_simp; (try go_bits); (try rw [if_pos (by omega)]); (try with_reducible rfl)
      (try simp only [Act.put, List.setIfInBounds_toArray, List.set_cons_succ, List.set_cons_zero])
      refine wpE_take (i := 2) (oi := { dst := some 34, op := Go.Op.fieldAddr 123 (Go.Operand.tmp 33) 1, type := 0, pos := "engine.go:177", after := #[{ on := 1, ground := Go.Ground.data }], guard := none }) (v := ?_) rfl (by kernel_rfl) (fun _ _ _ h => h) (Or.inl ⟨by rfl, fun W hW => ?_⟩) hS ?_
      rotate_left
      · obtain ⟨hw1, hw2⟩ := hW; go_simp; (try go_bits); (try rw [if_pos (by omega)]); (try with_reducible rfl)
      (try simp only [Act.put, List.setIfInBounds_toArray, List.set_cons_succ, List.set_cons_zero])
      refine wpE_take (i := 3) (oi := { dst := some 35, op := Go.Op.load 108 (Go.Operand.tmp 34), type := 108, pos := "engine.go:177", after := #[{ on := 2, ground := Go.Ground.data }], guard := none }) (v := ?_) rfl (by kernel_rfl) (fun _ _ _ h => h) (Or.inl ⟨by rfl, fun W hW => ?_⟩) hS ?_
      rotate_left
      · obtain ⟨hw1, hw2⟩ := hW; go_simp; (try go_bits); (try rw [if_pos (by omega)]); (try with_reducible rfl)
      (try simp only [Act.put, List.setIfInBounds_toArray, List.set_cons_succ, List.set_cons_zero])
      refine wpE_take (i := 4) (oi := { dst := some 36, op := Go.Op.move (Go.Operand.tmp 0), type := 42, pos := "engine.go:177", after := #[], guard := none }) (v := ?_) rfl (by kernel_rfl) (fun _ _ _ h => h) (Or.inl ⟨by rfl, fun W hW => ?_⟩) hS ?_
      rotate_left
      · obtain ⟨hw1, hw2⟩ := hW; go_simp; (try go_bits); (try rw [if_pos (by omega)]); (try with_reducible rfl)
      (try simp only [Act.put, List.setIfInBounds_toArray, List.set_cons_succ, List.set_cons_zero])
      refine wpE_take (i := 6) (oi := { dst := some 38, op := Go.Op.move (Go.Operand.tmp 0), type := 42, pos := "engine.go:177", after := #[], guard := none }) (v := ?_) rfl (by kernel_rfl) (fun _ _ _ h => h) (Or.inl ⟨by rfl, fun W hW => ?_⟩) hS ?_
      rotate_left
      · obtain ⟨hw1, hw2⟩ := hW; go_simp; (try go_bits); (try rw [if_pos (by omega)]); (try with_reducible rfl)
      (try simp only [Act.put, List.setIfInBounds_toArray, List.set_cons_succ, List.set_cons_zero])
      refine wpE_take (i := 7) (oi := { dst := some 39, op := Go.Op.nilCheck (Go.Operand.tmp 38), type := 0, pos := "engine.go:177", after := #[{ on := 6, ground := Go.Ground.data }], guard := none }) (v := ?_) rfl (by kernel_rfl) (fun _ _ _ h => h) (Or.inl ⟨by rfl, fun W hW => ?_⟩) hS ?_
      rotate_left
      · obtain ⟨hw1, hw2⟩ := hW; go_simp; (try go_bits); (try rw [if_pos (by omega)]); (try with_reducible rfl)
      (try simp only [Act.put, List.setIfInBounds_toArray, List.set_cons_succ, List.set_cons_zero])
      refine wpE_take (i := 8) (oi := { dst := some 40, op := Go.Op.fieldAddr 123 (Go.Operand.tmp 39) 4, type := 0, pos := "engine.go:177", after := #[{ on := 7, ground := Go.Ground.data }], guard := none }) (v := ?_) rfl (by kernel_rfl) (fun _ _ _ h => h) (Or.inl ⟨by rfl, fun W hW => ?_⟩) hS ?_
      rotate_left
      · obtain ⟨hw1, hw2⟩ := hW; go_simp; (try go_bits); (try rw [if_pos (by omega)]); (try with_reducible rfl)
      (try simp only [Act.put, List.setIfInBounds_toArray, List.set_cons_succ, List.set_cons_zero])
      refine wpE_take (i := 9) (oi := { dst := some 41, op := Go.Op.load 23 (Go.Operand.tmp 40), type := 23, pos := "engine.go:177", after := #[{ on := 8, ground := Go.Ground.data }], guard := none }) (v := ?_) rfl (by kernel_rfl) (fun _ _ _ h => h) (Or.inl ⟨by rfl, fun W hW => ?_⟩) hS ?_
      rotate_left
      · obtain ⟨hw1, hw2⟩ := hW; go_simp; (try go_bits); (try rw [if_pos (by omega)]); (try with_reducible rfl)
      (try simp only [Act.put, List.setIfInBounds_toArray, List.set_cons_succ, List.set_cons_zero])
      refine wpE_take (i := 11) (oi := { dst := some 43, op := Go.Op.nilCheck (Go.Operand.tmp 35), type := 108, pos := "engine.go:177", after := #[{ on := 3, ground := Go.Ground.data }], guard := none }) (v := ?_) rfl (by kernel_rfl) (fun _ _ _ h => h) (Or.inl ⟨by rfl, fun W hW => ?_⟩) hS ?_
      rotate_left
      · obtain ⟨hw1, hw2⟩ := hW; go_simp; (try go_bits); (try rw [if_pos (by omega)]); (try with_reducible rfl)
      (try simp only [Act.put, List.setIfInBounds_toArray, List.set_cons_succ, List.set_cons_zero])
      refine wpE_take (i := 12) (oi := { dst := some 44, op := Go.Op.move (Go.Operand.tmp 35), type := 108, pos := "engine.go:177", after := #[{ on := 3, ground := Go.Ground.data }, { on := 11, ground := Go.Ground.data }], guard := none }) (v := ?_) rfl (by kernel_rfl) (fun _ _ _ h => h) (Or.inl ⟨by rfl, fun W hW => ?_⟩) hS ?_
      rotate_left
      · obtain ⟨hw1, hw2⟩ := hW; go_simp; (try go_bits); (try rw [if_pos (by omega)]); (try with_reducible rfl)
      (try simp only [Act.put, List.setIfInBounds_toArray, List.set_cons_succ, List.set_cons_zero])
      refine wpE_only (i := 5) (oi := { dst := some 37, op := Go.Op.call { callee := Go.Callee.value (Go.Operand.func 39), args := #[Go.Operand.tmp 36], argTypes := #[42] }, type := 23, pos := "engine.go:177", after := #[{ on := 4, ground := Go.Ground.data }], guard := none }) rfl (by kernel_rfl) (by rfl) (fun K hK => ?_)
      go_simp; refine HS.out.mono ?_; rintro x wz ⟨rfl, rfl⟩; refine hK _ _ hS ?_; clear hK K
      (try simp only [Act.put, List.setIfInBounds_toArray, List.set_cons_succ, List.set_cons_zero])
      refine wpE_take (i := 10) (oi := { dst := some 42, op := Go.Op.binOp Go.BinOp.add 23 (Go.Operand.tmp 37) (Go.Operand.tmp 41) 23, type := 23, pos := "engine.go:177", after := #[{ on := 5, ground := Go.Ground.data }, { on := 9, ground := Go.Ground.data }], guard := none }) (v := ?_) rfl (by kernel_rfl) (fun _ _ _ h => h) (Or.inl ⟨by rfl, fun W hW => ?_⟩) hS ?_
      rotate_left
      · obtain ⟨hw1, hw2⟩ := hW; go_simp; (try go_bits); (try rw [if_pos (by omega)]); (try with_reducible rfl)
      (try simp only [Act.put, List.setIfInBounds_toArray, List.set_cons_succ, List.set_cons_zero])
      refine wpE_only (i := 13) (oi := { dst := some 45, op := Go.Op.call { callee := Go.Callee.invoke (Go.Operand.tmp 44) "citadel/engine.access", args := #[Go.Operand.tmp 42, Go.Operand.const (Go.Value.bool true)], argTypes := #[23, 4] }, type := 52, pos := "engine.go:177", after := #[{ on := 12, ground := Go.Ground.data }, { on := 10, ground := Go.Ground.data }, { on := 5, ground := Go.Ground.chain }], guard := none }) rfl (by kernel_rfl) (by rfl) (fun K hK => ?_)
      go_simp; rw [HG.m1]; simp only [Result.andThen]; rw [HG.c1, Oper.upon_enter]; refine HA.out.mono ?_; rintro x w3 ⟨rfl, own3, hS3, hV3⟩
      have hE3 := HE.out.call HG.hC hS3 hV3
      obtain ⟨y0, y1, y3, y4, _⟩ := hE3.eg.cells
      have HE3 := Lib.hid hE3
      clear HE HA hS3 hV3 hE3 hS
      have hS : (fun (W' : World) => W'.cell? ⟨e, 1, none⟩ = some (.iface ty rv) ∧ W'.cell? ⟨e, 4, none⟩ = some (.int .u64 (s.cp : Int))) w3 := ⟨y1, y4⟩
      refine hK _ _ hS ?_; clear hK K
      (try simp only [Act.put, List.setIfInBounds_toArray, List.set_cons_succ, List.set_cons_zero])
      refine wpE_take (i := 14) (oi := { dst := some 31, op := Go.Op.move (Go.Operand.tmp 45), type := 52, pos := "engine.go:177", after := #[{ on := 13, ground := Go.Ground.data }], guard := none }) (v := ?_) rfl (by kernel_rfl) (fun _ _ _ h => h) (Or.inl ⟨by rfl, fun W hW => ?_⟩) hS ?_
      rotate_left
      · obtain ⟨hw1, hw2⟩ := hW; go_simp; (try go_bits); (try rw [if_pos (by omega)]); (try with_reducible rfl)
      (try simp only [Act.put, List.setIfInBounds_toArray, List.set_cons_succ, List.set_cons_zero])
      refine wpE_take (i := 15) (oi := { dst := some 46, op := Go.Op.extract (Go.Operand.tmp 31) 0, type := 23, pos := "engine.go:177", after := #[{ on := 14, ground := Go.Ground.data }], guard := none }) (v := ?_) rfl (by kernel_rfl) (fun _ _ _ h => h) (Or.inl ⟨by rfl, fun W hW => ?_⟩) hS ?_
      rotate_left
      · obtain ⟨hw1, hw2⟩ := hW; go_simp; (try go_bits); (try rw [if_pos (by omega)]); (try with_reducible rfl)
      (try simp only [Act.put, List.setIfInBounds_toArray, List.set_cons_succ, List.set_cons_zero])
      refine wpE_take (i := 16) (oi := { dst := some 47, op := Go.Op.extract (Go.Operand.tmp 31) 1, type := 4, pos := "engine.go:177", after := #[{ on := 14, ground := Go.Ground.data }, { on := 17, ground := Go.Ground.gcOnly Go.Departure.lateStores }], guard := none }) (v := ?_) rfl (by kernel_rfl) (fun _ _ _ h => h) (Or.inl ⟨by rfl, fun W hW => ?_⟩) hS ?_
      rotate_left
      · obtain ⟨hw1, hw2⟩ := hW; go_simp; (try go_bits); (try rw [if_pos (by omega)]); (try with_reducible rfl)
      (try simp only [Act.put, List.setIfInBounds_toArray, List.set_cons_succ, List.set_cons_zero])
      refine wpE_only (i := 17) (oi := { dst := some 6, op := Go.Op.assign (Go.Operand.tmp 46), type := 23, pos := "engine.go:177", after := #[{ on := 15, ground := Go.Ground.data }, { on := 13, ground := Go.Ground.chain }, { on := 0, ground := Go.Ground.phase }, { on := 1, ground := Go.Ground.phase }, { on := 2, ground := Go.Ground.phase }, { on := 3, ground := Go.Ground.phase }, { on := 4, ground := Go.Ground.phase }, { on := 5, ground := Go.Ground.phase }, { on := 6, ground := Go.Ground.phase }, { on := 7, ground := Go.Ground.phase }, { on := 8, ground := Go.Ground.phase }, { on := 9, ground := Go.Ground.phase }, { on := 10, ground := Go.Ground.phase }, { on := 11, ground := Go.Ground.phase }, { on := 12, ground := Go.Ground.phase }, { on := 13, ground := Go.Ground.phase }, { on := 14, ground := Go.Ground.phase }, { on := 15, ground := Go.Ground.phase }, { on := 16, ground := Go.Ground.textOnly Go.Departure.lateStores }], guard := none }) rfl (by kernel_rfl) (by rfl) (fun K hK => ?_)
      go_simp; (try go_bits); refine hK _ _ hS ?_; clear hK K
      (try simp only [Act.put, List.setIfInBounds_toArray, List.set_cons_succ, List.set_cons_zero])
      refine wpE_last (oi := { dst := some 5, op := Go.Op.assign (Go.Operand.tmp 47), type := 4, pos := "engine.go:177", after := #[{ on := 16, ground := Go.Ground.data }, { on := 17, ground := Go.Ground.chain }, { on := 0, ground := Go.Ground.phase }, { on := 1, ground := Go.Ground.phase }, { on := 2, ground := Go.Ground.phase }, { on := 3, ground := Go.Ground.phase }, { on := 4, ground := Go.Ground.phase }, { on := 5, ground := Go.Ground.phase }, { on := 6, ground := Go.Ground.phase }, { on := 7, ground := Go.Ground.phase }, { on := 8, ground := Go.Ground.phase }, { on := 9, ground := Go.Ground.phase }, { on := 10, ground := Go.Ground.phase }, { on := 11, ground := Go.Ground.phase }, { on := 12, ground := Go.Ground.phase }, { on := 13, ground := Go.Ground.phase }, { on := 14, ground := Go.Ground.phase }, { on := 15, ground := Go.Ground.phase }, { on := 16, ground := Go.Ground.phase }, { on := 17, ground := Go.Ground.phase }], guard := none }) rfl (by kernel_rfl) (by kernel_rfl) (by rfl) (fun K hK => ?_)
      go_simp; (try go_bits); refine hK _ _ ?_; clear hK K
      clear hS HS
      have hE := HE3.out
      clear HE3 y0 y1 y3 y4 k0 k1 k3 k4 z3 z4 kl
      cases o2 with
      | false =>
        have hnx : nextE s true false = { s with st := 3 } := by unfold nextE; rw [if_pos hs]; rfl
        have hp1 := hE.put (s' := { s with st := 2 }) hV 3 (.int .u64 2) (fun _ _ _ => rfl) rfl
        have hp2 := hp1.put (s' := { s with st := 3 }) hV 3 (.int .u64 3) (fun _ _ _ => rfl) rfl
        obtain ⟨k0, k1, k3, k4, z3, z4, kl⟩ := hE.eg.cells
        obtain ⟨l0, l1, g0, g1, ll⟩ := hE.loc
        have hne := hE.ne
        generalize w.heap.size = lb at *
        have HM := Lib.hid (eng_msi hp2.eg)
        by_cases h40 : s.rg 40 = 0
        · have e40 : ((s.rg 40 : Int) == 0) = true := by rw [h40]; rfl
          have HX := Lib.hid (show resE s true false R = (0, 0, false) ∧ whichE s true false = 2 ∧ nextE s true false = { s with st := 3 } from ⟨by simp [resE, hs, hnx, h40], by simp [whichE, hs, hnx, h40, atE], hnx⟩)
          have HP := Lib.hid (hp2.lset hV 0 0)
          clear hE hp1 hp2 h40 hs hnx
          go_wp2_with fail
          ((with_reducible refine HM.out.mono ?_); rintro x wz ⟨rfl, rfl⟩)
          clear HM
          go_wp2
          refine bodyPost_ret (results_cell_tmp_row rfl _ _ lb 47 #[.int .i64 0, .int .i64 0] _ rfl HP.out.2.2.2 Tryz.underlying47 rfl (by kernel_rfl)) rfl ?_
          rw [HX.out.1, HX.out.2.1, HX.out.2.2]
          exact ⟨rfl, _, HP.out.1, HP.out.2.1, HP.out.2.2.1⟩
        · have e40 : ((s.rg 40 : Int) == 0) = false := by simp; omega
          have HX := Lib.hid (show resE s true false R = R 2 ∧ whichE s true false = 2 + 10 ∧ nextE s true false = { s with st := 3 } from ⟨by simp [resE, hs, hnx, h40, atE], by simp [whichE, hs, hnx, h40, atE], hnx⟩)
          have hpd := hp2.drew hV
          have HM2 := Lib.hid (eng_msi hpd.eg)
          have HD := Lib.hid (eng_data hpd.eg)
          have HW := Lib.hid (HG.ms 2 rfl _ _ hpd.v)
          obtain ⟨y0, y1, y3, y4, _⟩ := hpd.eg.cells
          have HP := Lib.hid hpd
          clear hE hp1 hp2 hpd h40 hs hnx
          go_wp2_with fail
          ((with_reducible refine HM.out.mono ?_); rintro x wz ⟨rfl, rfl⟩)
          clear HM
          go_wp2_with fail
          refine wpE_region (S := fun (W' : World) => W'.cell? ⟨e, 1, none⟩ = some (.iface ty rv)) (s := 14) (by kernel_rfl) ?_
          have hS : (fun (W' : World) => W'.cell? ⟨e, 1, none⟩ = some (.iface ty rv)) _ := y1
          refine wpE_take (i := 0) (oi := { dst := some 92, op := Go.Op.move (Go.Operand.tmp 0), type := 42, pos := "engine.go:192", after := #[], guard := none }) (v := ?_) rfl (by kernel_rfl) (fun _ _ _ h => h) (Or.inl ⟨by rfl, fun W hW => ?_⟩) hS ?_
          rotate_left
          · (have hw1 : W.cell? ⟨e, 1, none⟩ = some (.iface ty rv) := hW); go_simp; (try go_bits); (try rw [if_pos (by omega)]); (try with_reducible rfl)
          (try simp only [Act.put, List.setIfInBounds_toArray, List.set_cons_succ, List.set_cons_zero])
          refine wpE_take (i := 1) (oi := { dst := some 93, op := Go.Op.nilCheck (Go.Operand.tmp 92), type := 0, pos := "engine.go:192", after := #[{ on := 0, ground := Go.Ground.data }], guard := none }) (v := ?_) rfl (by kernel_rfl) (fun _ _ _ h => h) (Or.inl ⟨by rfl, fun W hW => ?_⟩) hS ?_
          rotate_left
          · (have hw1 : W.cell? ⟨e, 1, none⟩ = some (.iface ty rv) := hW); go_simp; (try go_bits); (try rw [if_pos (by omega)]); (try with_reducible rfl)
          (try simp only [Act.put, List.setIfInBounds_toArray, List.set_cons_succ, List.set_cons_zero])
          refine wpE_take (i := 2) (oi := { dst := some 94, op := Go.Op.fieldAddr 123 (Go.Operand.tmp 93) 1, type := 0, pos := "engine.go:192", after := #[{ on := 1, ground := Go.Ground.data }], guard := none }) (v := ?_) rfl (by kernel_rfl) (fun _ _ _ h => h) (Or.inl ⟨by rfl, fun W hW => ?_⟩) hS ?_
          rotate_left
          · (have hw1 : W.cell? ⟨e, 1, none⟩ = some (.iface ty rv) := hW); go_simp; (try go_bits); (try rw [if_pos (by omega)]); (try with_reducible rfl)
          (try simp only [Act.put, List.setIfInBounds_toArray, List.set_cons_succ, List.set_cons_zero])
          refine wpE_take (i := 3) (oi := { dst := some 95, op := Go.Op.load 108 (Go.Operand.tmp 94), type := 108, pos := "engine.go:192", after := #[{ on := 2, ground := Go.Ground.data }], guard := none }) (v := ?_) rfl (by kernel_rfl) (fun _ _ _ h => h) (Or.inl ⟨by rfl, fun W hW => ?_⟩) hS ?_
          rotate_left
          · (have hw1 : W.cell? ⟨e, 1, none⟩ = some (.iface ty rv) := hW); go_simp; (try go_bits); (try rw [if_pos (by omega)]); (try with_reducible rfl)
          (try simp only [Act.put, List.setIfInBounds_toArray, List.set_cons_succ, List.set_cons_zero])
          refine wpE_take (i := 4) (oi := { dst := some 96, op := Go.Op.move (Go.Operand.tmp 0), type := 42, pos := "engine.go:192", after := #[], guard := none }) (v := ?_) rfl (by kernel_rfl) (fun _ _ _ h => h) (Or.inl ⟨by rfl, fun W hW => ?_⟩) hS ?_
          rotate_left
          · (have hw1 : W.cell? ⟨e, 1, none⟩ = some (.iface ty rv) := hW); go_simp; (try go_bits); (try rw [if_pos (by omega)]); (try with_reducible rfl)
          (try simp only [Act.put, List.setIfInBounds_toArray, List.set_cons_succ, List.set_cons_zero])
          refine wpE_take (i := 6) (oi := { dst := some 98, op := Go.Op.move (Go.Operand.tmp 0), type := 42, pos := "engine.go:192", after := #[], guard := none }) (v := ?_) rfl (by kernel_rfl) (fun _ _ _ h => h) (Or.inl ⟨by rfl, fun W hW => ?_⟩) hS ?_
          rotate_left
          · (have hw1 : W.cell? ⟨e, 1, none⟩ = some (.iface ty rv) := hW); go_simp; (try go_bits); (try rw [if_pos (by omega)]); (try with_reducible rfl)
          (try simp only [Act.put, List.setIfInBounds_toArray, List.set_cons_succ, List.set_cons_zero])
          refine wpE_take (i := 8) (oi := { dst := some 100, op := Go.Op.nilCheck (Go.Operand.tmp 95), type := 108, pos := "engine.go:192", after := #[{ on := 3, ground := Go.Ground.data }], guard := none }) (v := ?_) rfl (by kernel_rfl) (fun _ _ _ h => h) (Or.inl ⟨by rfl, fun W hW => ?_⟩) hS ?_
          rotate_left
          · (have hw1 : W.cell? ⟨e, 1, none⟩ = some (.iface ty rv) := hW); go_simp; (try go_bits); (try rw [if_pos (by omega)]); (try with_reducible rfl)
          (try simp only [Act.put, List.setIfInBounds_toArray, List.set_cons_succ, List.set_cons_zero])
          refine wpE_take (i := 9) (oi := { dst := some 101, op := Go.Op.move (Go.Operand.tmp 95), type := 108, pos := "engine.go:192", after := #[{ on := 3, ground := Go.Ground.data }, { on := 8, ground := Go.Ground.data }], guard := none }) (v := ?_) rfl (by kernel_rfl) (fun _ _ _ h => h) (Or.inl ⟨by rfl, fun W hW => ?_⟩) hS ?_
          rotate_left
          · (have hw1 : W.cell? ⟨e, 1, none⟩ = some (.iface ty rv) := hW); go_simp; (try go_bits); (try rw [if_pos (by omega)]); (try with_reducible rfl)
          (try simp only [Act.put, List.setIfInBounds_toArray, List.set_cons_succ, List.set_cons_zero])
          refine wpE_only (i := 5) (oi := { dst := some 97, op := Go.Op.call { callee := Go.Callee.value (Go.Operand.func 42), args := #[Go.Operand.tmp 96], argTypes := #[42] }, type := 23, pos := "engine.go:192", after := #[{ on := 4, ground := Go.Ground.data }], guard := none }) rfl (by kernel_rfl) (by rfl) (fun K hK => ?_)
          go_simp; refine HM2.out.mono ?_; rintro x wz ⟨rfl, rfl⟩; refine hK _ _ hS ?_; clear hK K
          (try simp only [Act.put, List.setIfInBounds_toArray, List.set_cons_succ, List.set_cons_zero])
          refine wpE_only (i := 7) (oi := { dst := some 99, op := Go.Op.call { callee := Go.Callee.value (Go.Operand.func 43), args := #[Go.Operand.tmp 98], argTypes := #[42] }, type := 23, pos := "engine.go:192", after := #[{ on := 6, ground := Go.Ground.data }, { on := 5, ground := Go.Ground.chain }], guard := none }) rfl (by kernel_rfl) (by rfl) (fun K hK => ?_)
          go_simp; refine HD.out.mono ?_; rintro x wz ⟨rfl, rfl⟩; refine hK _ _ hS ?_; clear hK K
          (try simp only [Act.put, List.setIfInBounds_toArray, List.set_cons_succ, List.set_cons_zero])
          refine wpE_only (i := 10) (oi := { dst := some 102, op := Go.Op.call { callee := Go.Callee.invoke (Go.Operand.tmp 101) "citadel/engine.message", args := #[Go.Operand.tmp 97, Go.Operand.tmp 99], argTypes := #[23, 23] }, type := 61, pos := "engine.go:192", after := #[{ on := 9, ground := Go.Ground.data }, { on := 5, ground := Go.Ground.data }, { on := 7, ground := Go.Ground.data }, { on := 7, ground := Go.Ground.chain }], guard := none }) rfl (by kernel_rfl) (by rfl) (fun K hK => ?_)
          go_simp; rw [HG.m2]; simp only [Result.andThen]; rw [HG.c2, Oper.upon_enter]; refine HW.out.mono ?_; rintro x w9 ⟨rfl, own9, hS9, hV9⟩
          have hE9 := HP.out.call HG.hC hS9 hV9
          obtain ⟨q0, q1, q3, q4, _⟩ := hE9.eg.cells
          obtain ⟨l0, l1, g0, g1, ll⟩ := hE9.loc
          have HE9 := Lib.hid (hE9.lset hV (R 2).1 (R 2).2.1)
          clear HP HW HM2 HD hS9 hV9 hE9 hS
          have hS : (fun (W' : World) => W'.cell? ⟨e, 1, none⟩ = some (.iface ty rv)) w9 := q1
          refine hK _ _ hS ?_; clear hK K
          (try simp only [Act.put, List.setIfInBounds_toArray, List.set_cons_succ, List.set_cons_zero])
          refine wpE_take (i := 11) (oi := { dst := some 103, op := Go.Op.extract (Go.Operand.tmp 102) 0, type := 47, pos := "engine.go:192", after := #[{ on := 10, ground := Go.Ground.data }], guard := none }) (v := ?_) rfl (by kernel_rfl) (fun _ _ _ h => h) (Or.inl ⟨by rfl, fun W hW => ?_⟩) hS ?_
          rotate_left
          · (have hw1 : W.cell? ⟨e, 1, none⟩ = some (.iface ty rv) := hW); go_simp; (try go_bits); (try rw [if_pos (by omega)]); (try with_reducible rfl)
          (try simp only [Act.put, List.setIfInBounds_toArray, List.set_cons_succ, List.set_cons_zero])
          refine wpE_take (i := 12) (oi := { dst := some 104, op := Go.Op.extract (Go.Operand.tmp 102) 1, type := 4, pos := "engine.go:192", after := #[{ on := 10, ground := Go.Ground.data }], guard := none }) (v := ?_) rfl (by kernel_rfl) (fun _ _ _ h => h) (Or.inl ⟨by rfl, fun W hW => ?_⟩) hS ?_
          rotate_left
          · (have hw1 : W.cell? ⟨e, 1, none⟩ = some (.iface ty rv) := hW); go_simp; (try go_bits); (try rw [if_pos (by omega)]); (try with_reducible rfl)
          (try simp only [Act.put, List.setIfInBounds_toArray, List.set_cons_succ, List.set_cons_zero])
          refine wpE_only (i := 13) (oi := { dst := none, op := Go.Op.store 47 (Go.Operand.tmp 2) (Go.Operand.tmp 103), type := 0, pos := "engine.go:192", after := #[{ on := 11, ground := Go.Ground.data }, { on := 10, ground := Go.Ground.chain }, { on := 0, ground := Go.Ground.phase }, { on := 1, ground := Go.Ground.phase }, { on := 2, ground := Go.Ground.phase }, { on := 3, ground := Go.Ground.phase }, { on := 4, ground := Go.Ground.phase }, { on := 5, ground := Go.Ground.phase }, { on := 6, ground := Go.Ground.phase }, { on := 7, ground := Go.Ground.phase }, { on := 8, ground := Go.Ground.phase }, { on := 9, ground := Go.Ground.phase }, { on := 10, ground := Go.Ground.phase }, { on := 11, ground := Go.Ground.phase }, { on := 12, ground := Go.Ground.phase }], guard := none }) rfl (by kernel_rfl) (by rfl) (fun K hK => ?_)
          go_simp
          have hS : (fun (W' : World) => W'.cell? ⟨e, 1, none⟩ = some (.iface ty rv)) ((w9.setCell ⟨lb, 0, none⟩ (.int .i64 (R 2).1)).setCell ⟨lb, 1, none⟩ (.int .i64 (R 2).2.1)) := by show World.cell? _ _ = _; go_simp
          refine hK _ _ hS ?_; clear hK K
          (try simp only [Act.put, List.setIfInBounds_toArray, List.set_cons_succ, List.set_cons_zero])
          refine wpE_last (oi := { dst := some 3, op := Go.Op.assign (Go.Operand.tmp 104), type := 4, pos := "engine.go:192", after := #[{ on := 12, ground := Go.Ground.data }, { on := 13, ground := Go.Ground.chain }, { on := 0, ground := Go.Ground.phase }, { on := 1, ground := Go.Ground.phase }, { on := 2, ground := Go.Ground.phase }, { on := 3, ground := Go.Ground.phase }, { on := 4, ground := Go.Ground.phase }, { on := 5, ground := Go.Ground.phase }, { on := 6, ground := Go.Ground.phase }, { on := 7, ground := Go.Ground.phase }, { on := 8, ground := Go.Ground.phase }, { on := 9, ground := Go.Ground.phase }, { on := 10, ground := Go.Ground.phase }, { on := 11, ground := Go.Ground.phase }, { on := 12, ground := Go.Ground.phase }, { on := 13, ground := Go.Ground.phase }], guard := none }) rfl (by kernel_rfl) (by kernel_rfl) (by rfl) (fun K hK => ?_)
          go_simp; (try go_bits); refine hK _ _ ?_; clear hK K
          go_wp2
          refine bodyPost_ret (results_cell_tmp_row rfl _ _ lb 47 #[.int .i64 (R 2).1, .int .i64 (R 2).2.1] _ rfl HE9.out.2.2.2 Tryz.underlying47 rfl (by kernel_rfl)) rfl ?_
          rw [HX.out.1, HX.out.2.1, HX.out.2.2]
          exact ⟨rfl, _, HE9.out.1, HE9.out.2.1, HE9.out.2.2.1⟩
      | true =>
        obtain ⟨k0, k1, k3, k4, z3, z4, kl⟩ := hE.eg.cells
        have HRd := Lib.hid (HG.rd rfl rfl _ _ hE.v)
        have HE := Lib.hid hE
        clear hE
        go_wp2_with fail
        ((with_reducible refine HRd.out.mono ?_); rintro x w4 ⟨gd, rfl, own4, hS4, hV4⟩)
        have hE4 := HE.out.call HG.hC hS4 hV4
        clear HE HRd hS4 hV4 k0 k1 k3 k4 z3 z4 kl
        obtain ⟨k0, k1, k3, k4, z3, z4, kl⟩ := hE4.eg.cells
        have HWr := Lib.hid (HG.wr rfl rfl _ _ hE4.v)
        have HE := Lib.hid hE4
        clear hE4
        go_wp2_with fail
        ((with_reducible refine HWr.out.mono ?_); rintro x w5 ⟨gw, rfl, own5, hS5, hV5⟩)
        have hE := HE.out.call HG.hC hS5 hV5
        clear HE HWr hS5 hV5 k0 k1 k3 k4 z3 z4 kl
        obtain ⟨hq1, hq2, hq3, hq4, hq5, hq6⟩ := hok.run hs
        obtain ⟨k0, k1, k3, k4, z3, z4, kl⟩ := hE.eg.cells
        obtain ⟨l0, l1, g0, g1, ll⟩ := hE.loc
        have hne := hE.ne
        have hr16 := hok.rg 16
        have hcp8 : IntKind.u64.wrap ((s.cp : Int) + 8) = ((s.cp + 8 : Nat) : Int) := by rw [IntWalk.u64_in _ (by omega)]; omega
        have hp1 := hE.put (s' := { s with cp := s.cp + 8 }) hV 4 (.int .u64 (IntKind.u64.wrap ((s.cp : Int) + 8))) (fun _ _ _ => by rw [hcp8]; rfl) rfl
        have hp1d := hp1.drew hV
        have HL := Lib.hid (eng_len hp1d.eg)
        have y4 : ((w5.setCell ⟨e, 4, none⟩ (.int .u64 (IntKind.u64.wrap ((s.cp : Int) + 8)))).drew).cell? ⟨e, 4, none⟩ = some (.int .u64 (IntKind.u64.wrap ((s.cp : Int) + 8))) := by rw [hcp8]; rw [hcp8] at hp1d; exact hp1d.eg.cells.2.2.2.1
        generalize w.heap.size = lb at *
        by_cases hlt : s.cp + 8 < s.rg 16
        · have hlt2 : decide (IntKind.u64.wrap ((s.cp : Int) + 8) < (s.rg 16 : Int)) = true := by rw [hcp8]; simp; omega
          have hnx : nextE s true true = { s with cp := s.cp + 8 } := by unfold nextE; rw [if_pos hs]; simp [hlt]
          have HX := Lib.hid (show resE s true true R = (0, 0, false) ∧ whichE s true true = 4 ∧ nextE s true true = { s with cp := s.cp + 8 } from ⟨by simp [resE, hs, hnx], by simp [whichE, hs, hnx, atE], hnx⟩)
          have HP := Lib.hid (hp1d.lset hV 0 0)
          clear hE hp1 hp1d hs hnx hlt hq1 hq2 hq3 hq4 hq5 hq6 hcp8
          go_wp2_with fail
          refine wpE_region (S := fun (W' : World) => W'.cell? ⟨e, 4, none⟩ = some (.int .u64 (IntKind.u64.wrap ((s.cp : Int) + 8)))) (s := 6) (by kernel_rfl) ?_
          have hS : (fun (W' : World) => W'.cell? ⟨e, 4, none⟩ = some (.int .u64 (IntKind.u64.wrap ((s.cp : Int) + 8)))) _ := y4
          refine wpE_take (i := 0) (oi := { dst := some 72, op := Go.Op.move (Go.Operand.tmp 0), type := 42, pos := "engine.go:182", after := #[], guard := none }) (v := ?_) rfl (by kernel_rfl) (fun _ _ _ h => h) (Or.inl ⟨by rfl, fun W hW => ?_⟩) hS ?_
          rotate_left
          · (have hw1 : W.cell? ⟨e, 4, none⟩ = some (.int .u64 (IntKind.u64.wrap ((s.cp : Int) + 8))) := hW); go_simp; (try go_bits); (try rw [if_pos (by omega)]); (try with_reducible rfl)
          (try simp only [Act.put, List.setIfInBounds_toArray, List.set_cons_succ, List.set_cons_zero])
          refine wpE_take (i := 1) (oi := { dst := some 73, op := Go.Op.nilCheck (Go.Operand.tmp 72), type := 0, pos := "engine.go:182", after := #[{ on := 0, ground := Go.Ground.data }], guard := none }) (v := ?_) rfl (by kernel_rfl) (fun _ _ _ h => h) (Or.inl ⟨by rfl, fun W hW => ?_⟩) hS ?_
          rotate_left
          · (have hw1 : W.cell? ⟨e, 4, none⟩ = some (.int .u64 (IntKind.u64.wrap ((s.cp : Int) + 8))) := hW); go_simp; (try go_bits); (try rw [if_pos (by omega)]); (try with_reducible rfl)
          (try simp only [Act.put, List.setIfInBounds_toArray, List.set_cons_succ, List.set_cons_zero])
          refine wpE_take (i := 2) (oi := { dst := some 74, op := Go.Op.fieldAddr 123 (Go.Operand.tmp 73) 4, type := 0, pos := "engine.go:182", after := #[{ on := 1, ground := Go.Ground.data }], guard := none }) (v := ?_) rfl (by kernel_rfl) (fun _ _ _ h => h) (Or.inl ⟨by rfl, fun W hW => ?_⟩) hS ?_
          rotate_left
          · (have hw1 : W.cell? ⟨e, 4, none⟩ = some (.int .u64 (IntKind.u64.wrap ((s.cp : Int) + 8))) := hW); go_simp; (try go_bits); (try rw [if_pos (by omega)]); (try with_reducible rfl)
          (try simp only [Act.put, List.setIfInBounds_toArray, List.set_cons_succ, List.set_cons_zero])
          refine wpE_take (i := 3) (oi := { dst := some 75, op := Go.Op.load 23 (Go.Operand.tmp 74), type := 23, pos := "engine.go:182", after := #[{ on := 2, ground := Go.Ground.data }], guard := none }) (v := ?_) rfl (by kernel_rfl) (fun _ _ _ h => h) (Or.inl ⟨by rfl, fun W hW => ?_⟩) hS ?_
          rotate_left
          · (have hw1 : W.cell? ⟨e, 4, none⟩ = some (.int .u64 (IntKind.u64.wrap ((s.cp : Int) + 8))) := hW); go_simp; (try go_bits); (try rw [if_pos (by omega)]); (try with_reducible rfl)
          (try simp only [Act.put, List.setIfInBounds_toArray, List.set_cons_succ, List.set_cons_zero])
          refine wpE_take (i := 4) (oi := { dst := some 76, op := Go.Op.move (Go.Operand.tmp 0), type := 42, pos := "engine.go:182", after := #[], guard := none }) (v := ?_) rfl (by kernel_rfl) (fun _ _ _ h => h) (Or.inl ⟨by rfl, fun W hW => ?_⟩) hS ?_
          rotate_left
          · (have hw1 : W.cell? ⟨e, 4, none⟩ = some (.int .u64 (IntKind.u64.wrap ((s.cp : Int) + 8))) := hW); go_simp; (try go_bits); (try rw [if_pos (by omega)]); (try with_reducible rfl)
          (try simp only [Act.put, List.setIfInBounds_toArray, List.set_cons_succ, List.set_cons_zero])
          refine wpE_only (i := 5) (oi := { dst := some 77, op := Go.Op.call { callee := Go.Callee.value (Go.Operand.func 41), args := #[Go.Operand.tmp 76], argTypes := #[42] }, type := 23, pos := "engine.go:182", after := #[{ on := 4, ground := Go.Ground.data }], guard := none }) rfl (by kernel_rfl) (by rfl) (fun K hK => ?_)
          go_simp; refine HL.out.mono ?_; rintro x wz ⟨rfl, rfl⟩; refine hK _ _ hS ?_; clear hK K
          (try simp only [Act.put, List.setIfInBounds_toArray, List.set_cons_succ, List.set_cons_zero])
          refine wpE_last (oi := { dst := some 78, op := Go.Op.binOp Go.BinOp.lss 23 (Go.Operand.tmp 75) (Go.Operand.tmp 77) 23, type := 4, pos := "engine.go:182", after := #[{ on := 3, ground := Go.Ground.data }, { on := 5, ground := Go.Ground.data }], guard := none }) rfl (by kernel_rfl) (by kernel_rfl) (by rfl) (fun K hK => ?_)
          go_simp; (try go_bits); refine hK _ _ ?_; clear hK K
          go_wp2
          refine bodyPost_ret (results_cell_tmp_row rfl _ _ lb 47 #[.int .i64 0, .int .i64 0] _ rfl HP.out.2.2.2 Tryz.underlying47 rfl (by kernel_rfl)) rfl ?_
          rw [HX.out.1, HX.out.2.1, HX.out.2.2]
          exact ⟨rfl, _, HP.out.1, HP.out.2.1, HP.out.2.2.1⟩
        · have hlt2 : decide (IntKind.u64.wrap ((s.cp : Int) + 8) < (s.rg 16 : Int)) = false := by rw [hcp8]; simp; omega
          have hnx : nextE s true true = { s with st := 2, cp := s.cp + 8 } := by unfold nextE; rw [if_pos hs]; simp [hlt]
          have hp2 := (hp1.put (s' := { s with st := 2, cp := s.cp + 8 }) hV 3 (.int .u64 2) (fun _ _ _ => rfl) rfl).drew hV
          clear hlt hq1 hq2 hq3 hq4 hq5 hq6 hcp8
          go_wp2_with fail
          refine wpE_region (S := fun (W' : World) => W'.cell? ⟨e, 4, none⟩ = some (.int .u64 (IntKind.u64.wrap ((s.cp : Int) + 8)))) (s := 6) (by kernel_rfl) ?_
          have hS : (fun (W' : World) => W'.cell? ⟨e, 4, none⟩ = some (.int .u64 (IntKind.u64.wrap ((s.cp : Int) + 8)))) _ := y4
          refine wpE_take (i := 0) (oi := { dst := some 72, op := Go.Op.move (Go.Operand.tmp 0), type := 42, pos := "engine.go:182", after := #[], guard := none }) (v := ?_) rfl (by kernel_rfl) (fun _ _ _ h => h) (Or.inl ⟨by rfl, fun W hW => ?_⟩) hS ?_
          rotate_left
          · (have hw1 : W.cell? ⟨e, 4, none⟩ = some (.int .u64 (IntKind.u64.wrap ((s.cp : Int) + 8))) := hW); go_simp; (try go_bits); (try rw [if_pos (by omega)]); (try with_reducible rfl)
          (try simp only [Act.put, List.setIfInBounds_toArray, List.set_cons_succ, List.set_cons_zero])
          refine wpE_take (i := 1) (oi := { dst := some 73, op := Go.Op.nilCheck (Go.Operand.tmp 72), type := 0, pos := "engine.go:182", after := #[{ on := 0, ground := Go.Ground.data }], guard := none }) (v := ?_) rfl (by kernel_rfl) (fun _ _ _ h => h) (Or.inl ⟨by rfl, fun W hW => ?_⟩) hS ?_
          rotate_left
          · (have hw1 : W.cell? ⟨e, 4, none⟩ = some (.int .u64 (IntKind.u64.wrap ((s.cp : Int) + 8))) := hW); go_simp; (try go_bits); (try rw [if_pos (by omega)]); (try with_reducible rfl)
          (try simp only [Act.put, List.setIfInBounds_toArray, List.set_cons_succ, List.set_cons_zero])
          refine wpE_take (i := 2) (oi := { dst := some 74, op := Go.Op.fieldAddr 123 (Go.Operand.tmp 73) 4, type := 0, pos := "engine.go:182", after := #[{ on := 1, ground := Go.Ground.data }], guard := none }) (v := ?_) rfl (by kernel_rfl) (fun _ _ _ h => h) (Or.inl ⟨by rfl, fun W hW => ?_⟩) hS ?_
          rotate_left
          · (have hw1 : W.cell? ⟨e, 4, none⟩ = some (.int .u64 (IntKind.u64.wrap ((s.cp : Int) + 8))) := hW); go_simp; (try go_bits); (try rw [if_pos (by omega)]); (try with_reducible rfl)
          (try simp only [Act.put, List.setIfInBounds_toArray, List.set_cons_succ, List.set_cons_zero])
          refine wpE_take (i := 3) (oi := { dst := some 75, op := Go.Op.load 23 (Go.Operand.tmp 74), type := 23, pos := "engine.go:182", after := #[{ on := 2, ground := Go.Ground.data }], guard := none }) (v := ?_) rfl (by kernel_rfl) (fun _ _ _ h => h) (Or.inl ⟨by rfl, fun W hW => ?_⟩) hS ?_
          rotate_left
          · (have hw1 : W.cell? ⟨e, 4, none⟩ = some (.int .u64 (IntKind.u64.wrap ((s.cp : Int) + 8))) := hW); go_simp; (try go_bits); (try rw [if_pos (by omega)]); (try with_reducible rfl)
          (try simp only [Act.put, List.setIfInBounds_toArray, List.set_cons_succ, List.set_cons_zero])
          refine wpE_take (i := 4) (oi := { dst := some 76, op := Go.Op.move (Go.Operand.tmp 0), type := 42, pos := "engine.go:182", after := #[], guard := none }) (v := ?_) rfl (by kernel_rfl) (fun _ _ _ h => h) (Or.inl ⟨by rfl, fun W hW => ?_⟩) hS ?_
          rotate_left
          · (have hw1 : W.cell? ⟨e, 4, none⟩ = some (.int .u64 (IntKind.u64.wrap ((s.cp : Int) + 8))) := hW); go_simp; (try go_bits); (try rw [if_pos (by omega)]); (try with_reducible rfl)
          (try simp only [Act.put, List.setIfInBounds_toArray, List.set_cons_succ, List.set_cons_zero])
          refine wpE_only (i := 5) (oi := { dst := some 77, op := Go.Op.call { callee := Go.Callee.value (Go.Operand.func 41), args := #[Go.Operand.tmp 76], argTypes := #[42] }, type := 23, pos := "engine.go:182", after := #[{ on := 4, ground := Go.Ground.data }], guard := none }) rfl (by kernel_rfl) (by rfl) (fun K hK => ?_)
          go_simp; refine HL.out.mono ?_; rintro x wz ⟨rfl, rfl⟩; refine hK _ _ hS ?_; clear hK K
          (try simp only [Act.put, List.setIfInBounds_toArray, List.set_cons_succ, List.set_cons_zero])
          refine wpE_last (oi := { dst := some 78, op := Go.Op.binOp Go.BinOp.lss 23 (Go.Operand.tmp 75) (Go.Operand.tmp 77) 23, type := 4, pos := "engine.go:182", after := #[{ on := 3, ground := Go.Ground.data }, { on := 5, ground := Go.Ground.data }], guard := none }) rfl (by kernel_rfl) (by kernel_rfl) (by rfl) (fun K hK => ?_)
          go_simp; (try go_bits); refine hK _ _ ?_; clear hK K
          clear hS HL
          have HM := Lib.hid (eng_msi hp2.eg)
          by_cases h40 : s.rg 40 = 0
          · have e40 : ((s.rg 40 : Int) == 0) = true := by rw [h40]; rfl
            have HX := Lib.hid (show resE s true true R = (0, 0, false) ∧ whichE s true true = 4 ∧ nextE s true true = { s with st := 2, cp := s.cp + 8 } from ⟨by simp [resE, hs, hnx, h40], by simp [whichE, hs, hnx, h40, atE], hnx⟩)
            have HP := Lib.hid (hp2.lset hV 0 0)
            clear hE hp1 hp1d hp2 h40 hs hnx
            go_wp2_with fail
            ((with_reducible refine HM.out.mono ?_); rintro x wz ⟨rfl, rfl⟩)
            clear HM
            go_wp2
            refine bodyPost_ret (results_cell_tmp_row rfl _ _ lb 47 #[.int .i64 0, .int .i64 0] _ rfl HP.out.2.2.2 Tryz.underlying47 rfl (by kernel_rfl)) rfl ?_
            rw [HX.out.1, HX.out.2.1, HX.out.2.2]
            exact ⟨rfl, _, HP.out.1, HP.out.2.1, HP.out.2.2.1⟩
          · have e40 : ((s.rg 40 : Int) == 0) = false := by simp; omega
            have HX := Lib.hid (show resE s true true R = R 4 ∧ whichE s true true = 4 + 10 ∧ nextE s true true = { s with st := 2, cp := s.cp + 8 } from ⟨by simp [resE, hs, hnx, h40, atE], by simp [whichE, hs, hnx, h40, atE], hnx⟩)
            have hpd := hp2.drew hV
            have HM2 := Lib.hid (eng_msi hpd.eg)
            have HD := Lib.hid (eng_data hpd.eg)
            have HW := Lib.hid (HG.ms 4 rfl _ _ hpd.v)
            obtain ⟨y0, y1, y3, y4, _⟩ := hpd.eg.cells
            have HP := Lib.hid hpd
            clear hE hp1 hp1d hp2 hpd h40 hs hnx
            go_wp2_with fail
            ((with_reducible refine HM.out.mono ?_); rintro x wz ⟨rfl, rfl⟩)
            clear HM
            go_wp2_with fail
            refine wpE_region (S := fun (W' : World) => W'.cell? ⟨e, 1, none⟩ = some (.iface ty rv)) (s := 14) (by kernel_rfl) ?_
            have hS : (fun (W' : World) => W'.cell? ⟨e, 1, none⟩ = some (.iface ty rv)) _ := y1
            refine wpE_take (i := 0) (oi := { dst := some 92, op := Go.Op.move (Go.Operand.tmp 0), type := 42, pos := "engine.go:192", after := #[], guard := none }) (v := ?_) rfl (by kernel_rfl) (fun _ _ _ h => h) (Or.inl ⟨by rfl, fun W hW => ?_⟩) hS ?_
            rotate_left
            · (have hw1 : W.cell? ⟨e, 1, none⟩ = some (.iface ty rv) := hW); go_simp; (try go_bits); (try rw [if_pos (by omega)]); (try with_reducible rfl)
            (try simp only [Act.put, List.setIfInBounds_toArray, List.set_cons_succ, List.set_cons_zero])
            refine wpE_take (i := 1) (oi := { dst := some 93, op := Go.Op.nilCheck (Go.Operand.tmp 92), type := 0, pos := "engine.go:192", after := #[{ on := 0, ground := Go.Ground.data }], guard := none }) (v := ?_) rfl (by kernel_rfl) (fun _ _ _ h => h) (Or.inl ⟨by rfl, fun W hW => ?_⟩) hS ?_
            rotate_left
            · (have hw1 : W.cell? ⟨e, 1, none⟩ = some (.iface ty rv) := hW); go_simp; (try go_bits); (try rw [if_pos (by omega)]); (try with_reducible rfl)
            (try simp only [Act.put, List.setIfInBounds_toArray, List.set_cons_succ, List.set_cons_zero])
            refine wpE_take (i := 2) (oi := { dst := some 94, op := Go.Op.fieldAddr 123 (Go.Operand.tmp 93) 1, type := 0, pos := "engine.go:192", after := #[{ on := 1, ground := Go.Ground.data }], guard := none }) (v := ?_) rfl (by kernel_rfl) (fun _ _ _ h => h) (Or.inl ⟨by rfl, fun W hW => ?_⟩) hS ?_
            rotate_left
            · (have hw1 : W.cell? ⟨e, 1, none⟩ = some (.iface ty rv) := hW); go_simp; (try go_bits); (try rw [if_pos (by omega)]); (try with_reducible rfl)
            (try simp only [Act.put, List.setIfInBounds_toArray, List.set_cons_succ, List.set_cons_zero])
            refine wpE_take (i := 3) (oi := { dst := some 95, op := Go.Op.load 108 (Go.Operand.tmp 94), type := 108, pos := "engine.go:192", after := #[{ on := 2, ground := Go.Ground.data }], guard := none }) (v := ?_) rfl (by kernel_rfl) (fun _ _ _ h => h) (Or.inl ⟨by rfl, fun W hW => ?_⟩) hS ?_
            rotate_left
            · (have hw1 : W.cell? ⟨e, 1, none⟩ = some (.iface ty rv) := hW); go_simp; (try go_bits); (try rw [if_pos (by omega)]); (try with_reducible rfl)
            (try simp only [Act.put, List.setIfInBounds_toArray, List.set_cons_succ, List.set_cons_zero])
            refine wpE_take (i := 4) (oi := { dst := some 96, op := Go.Op.move (Go.Operand.tmp 0), type := 42, pos := "engine.go:192", after := #[], guard := none }) (v := ?_) rfl (by kernel_rfl) (fun _ _ _ h => h) (Or.inl ⟨by rfl, fun W hW => ?_⟩) hS ?_
            rotate_left
            · (have hw1 : W.cell? ⟨e, 1, none⟩ = some (.iface ty rv) := hW); go_simp; (try go_bits); (try rw [if_pos (by omega)]); (try with_reducible rfl)
            (try simp only [Act.put, List.setIfInBounds_toArray, List.set_cons_succ, List.set_cons_zero])
            refine wpE_take (i := 6) (oi := { dst := some 98, op := Go.Op.move (Go.Operand.tmp 0), type := 42, pos := "engine.go:192", after := #[], guard := none }) (v := ?_) rfl (by kernel_rfl) (fun _ _ _ h => h) (Or.inl ⟨by rfl, fun W hW => ?_⟩) hS ?_
            rotate_left
            · (have hw1 : W.cell? ⟨e, 1, none⟩ = some (.iface ty rv) := hW); go_simp; (try go_bits); (try rw [if_pos (by omega)]); (try with_reducible rfl)
            (try simp only [Act.put, List.setIfInBounds_toArray, List.set_cons_succ, List.set_cons_zero])
            refine wpE_take (i := 8) (oi := { dst := some 100, op := Go.Op.nilCheck (Go.Operand.tmp 95), type := 108, pos := "engine.go:192", after := #[{ on := 3, ground := Go.Ground.data }], guard := none }) (v := ?_) rfl (by kernel_rfl) (fun _ _ _ h => h) (Or.inl ⟨by rfl, fun W hW => ?_⟩) hS ?_
            rotate_left
            · (have hw1 : W.cell? ⟨e, 1, none⟩ = some (.iface ty rv) := hW); go_simp; (try go_bits); (try rw [if_pos (by omega)]); (try with_reducible rfl)
            (try simp only [Act.put, List.setIfInBounds_toArray, List.set_cons_succ, List.set_cons_zero])
            refine wpE_take (i := 9) (oi := { dst := some 101, op := Go.Op.move (Go.Operand.tmp 95), type := 108, pos := "engine.go:192", after := #[{ on := 3, ground := Go.Ground.data }, { on := 8, ground := Go.Ground.data }], guard := none }) (v := ?_) rfl (by kernel_rfl) (fun _ _ _ h => h) (Or.inl ⟨by rfl, fun W hW => ?_⟩) hS ?_
            rotate_left
            · (have hw1 : W.cell? ⟨e, 1, none⟩ = some (.iface ty rv) := hW); go_simp; (try go_bits); (try rw [if_pos (by omega)]); (try with_reducible rfl)
            (try simp only [Act.put, List.setIfInBounds_toArray, List.set_cons_succ, List.set_cons_zero])
            refine wpE_only (i := 5) (oi := { dst := some 97, op := Go.Op.call { callee := Go.Callee.value (Go.Operand.func 42), args := #[Go.Operand.tmp 96], argTypes := #[42] }, type := 23, pos := "engine.go:192", after := #[{ on := 4, ground := Go.Ground.data }], guard := none }) rfl (by kernel_rfl) (by rfl) (fun K hK => ?_)
            go_simp; refine HM2.out.mono ?_; rintro x wz ⟨rfl, rfl⟩; refine hK _ _ hS ?_; clear hK K
            (try simp only [Act.put, List.setIfInBounds_toArray, List.set_cons_succ, List.set_cons_zero])
            refine wpE_only (i := 7) (oi := { dst := some 99, op := Go.Op.call { callee := Go.Callee.value (Go.Operand.func 43), args := #[Go.Operand.tmp 98], argTypes := #[42] }, type := 23, pos := "engine.go:192", after := #[{ on := 6, ground := Go.Ground.data }, { on := 5, ground := Go.Ground.chain }], guard := none }) rfl (by kernel_rfl) (by rfl) (fun K hK => ?_)
            go_simp; refine HD.out.mono ?_; rintro x wz ⟨rfl, rfl⟩; refine hK _ _ hS ?_; clear hK K
            (try simp only [Act.put, List.setIfInBounds_toArray, List.set_cons_succ, List.set_cons_zero])
            refine wpE_only (i := 10) (oi := { dst := some 102, op := Go.Op.call { callee := Go.Callee.invoke (Go.Operand.tmp 101) "citadel/engine.message", args := #[Go.Operand.tmp 97, Go.Operand.tmp 99], argTypes := #[23, 23] }, type := 61, pos := "engine.go:192", after := #[{ on := 9, ground := Go.Ground.data }, { on := 5, ground := Go.Ground.data }, { on := 7, ground := Go.Ground.data }, { on := 7, ground := Go.Ground.chain }], guard := none }) rfl (by kernel_rfl) (by rfl) (fun K hK => ?_)
            go_simp; rw [HG.m2]; simp only [Result.andThen]; rw [HG.c2, Oper.upon_enter]; refine HW.out.mono ?_; rintro x w9 ⟨rfl, own9, hS9, hV9⟩
            have hE9 := HP.out.call HG.hC hS9 hV9
            obtain ⟨q0, q1, q3, q4, _⟩ := hE9.eg.cells
            obtain ⟨l0, l1, g0, g1, ll⟩ := hE9.loc
            have HE9 := Lib.hid (hE9.lset hV (R 4).1 (R 4).2.1)
            clear HP HW HM2 HD hS9 hV9 hE9 hS
            have hS : (fun (W' : World) => W'.cell? ⟨e, 1, none⟩ = some (.iface ty rv)) w9 := q1
            refine hK _ _ hS ?_; clear hK K
            (try simp only [Act.put, List.setIfInBounds_toArray, List.set_cons_succ, List.set_cons_zero])
            refine wpE_take (i := 11) (oi := { dst := some 103, op := Go.Op.extract (Go.Operand.tmp 102) 0, type := 47, pos := "engine.go:192", after := #[{ on := 10, ground := Go.Ground.data }], guard := none }) (v := ?_) rfl (by kernel_rfl) (fun _ _ _ h => h) (Or.inl ⟨by rfl, fun W hW => ?_⟩) hS ?_
            rotate_left
            · (have hw1 : W.cell? ⟨e, 1, none⟩ = some (.iface ty rv) := hW); go_simp; (try go_bits); (try rw [if_pos (by omega)]); (try with_reducible rfl)
            (try simp only [Act.put, List.setIfInBounds_toArray, List.set_cons_succ, List.set_cons_zero])
            refine wpE_take (i := 12) (oi := { dst := some 104, op := Go.Op.extract (Go.Operand.tmp 102) 1, type := 4, pos := "engine.go:192", after := #[{ on := 10, ground := Go.Ground.data }], guard := none }) (v := ?_) rfl (by kernel_rfl) (fun _ _ _ h => h) (Or.inl ⟨by rfl, fun W hW => ?_⟩) hS ?_
            rotate_left
            · (have hw1 : W.cell? ⟨e, 1, none⟩ = some (.iface ty rv) := hW); go_simp; (try go_bits); (try rw [if_pos (by omega)]); (try with_reducible rfl)
            (try simp only [Act.put, List.setIfInBounds_toArray, List.set_cons_succ, List.set_cons_zero])
            refine wpE_only (i := 13) (oi := { dst := none, op := Go.Op.store 47 (Go.Operand.tmp 2) (Go.Operand.tmp 103), type := 0, pos := "engine.go:192", after := #[{ on := 11, ground := Go.Ground.data }, { on := 10, ground := Go.Ground.chain }, { on := 0, ground := Go.Ground.phase }, { on := 1, ground := Go.Ground.phase }, { on := 2, ground := Go.Ground.phase }, { on := 3, ground := Go.Ground.phase }, { on := 4, ground := Go.Ground.phase }, { on := 5, ground := Go.Ground.phase }, { on := 6, ground := Go.Ground.phase }, { on := 7, ground := Go.Ground.phase }, { on := 8, ground := Go.Ground.phase }, { on := 9, ground := Go.Ground.phase }, { on := 10, ground := Go.Ground.phase }, { on := 11, ground := Go.Ground.phase }, { on := 12, ground := Go.Ground.phase }], guard := none }) rfl (by kernel_rfl) (by rfl) (fun K hK => ?_)
            go_simp
            have hS : (fun (W' : World) => W'.cell? ⟨e, 1, none⟩ = some (.iface ty rv)) ((w9.setCell ⟨lb, 0, none⟩ (.int .i64 (R 4).1)).setCell ⟨lb, 1, none⟩ (.int .i64 (R 4).2.1)) := by show World.cell? _ _ = _; go_simp
            refine hK _ _ hS ?_; clear hK K
            (try simp only [Act.put, List.setIfInBounds_toArray, List.set_cons_succ, List.set_cons_zero])
            refine wpE_last (oi := { dst := some 3, op := Go.Op.assign (Go.Operand.tmp 104), type := 4, pos := "engine.go:192", after := #[{ on := 12, ground := Go.Ground.data }, { on := 13, ground := Go.Ground.chain }, { on := 0, ground := Go.Ground.phase }, { on := 1, ground := Go.Ground.phase }, { on := 2, ground := Go.Ground.phase }, { on := 3, ground := Go.Ground.phase }, { on := 4, ground := Go.Ground.phase }, { on := 5, ground := Go.Ground.phase }, { on := 6, ground := Go.Ground.phase }, { on := 7, ground := Go.Ground.phase }, { on := 8, ground := Go.Ground.phase }, { on := 9, ground := Go.Ground.phase }, { on := 10, ground := Go.Ground.phase }, { on := 11, ground := Go.Ground.phase }, { on := 12, ground := Go.Ground.phase }, { on := 13, ground := Go.Ground.phase }], guard := none }) rfl (by kernel_rfl) (by kernel_rfl) (by rfl) (fun K hK => ?_)
            go_simp; (try go_bits); refine hK _ _ ?_; clear hK K
            go_wp2
            refine bodyPost_ret (results_cell_tmp_row rfl _ _ lb 47 #[.int .i64 (R 4).1, .int .i64 (R 4).2.1] _ rfl HE9.out.2.2.2 Tryz.underlying47 rfl (by kernel_rfl)) rfl ?_
            rw [HX.out.1, HX.out.2.1, HX.out.2.2]
            exact ⟨rfl, _, HE9.out.1, HE9.out.2.1, HE9.out.2.2.1⟩
  · rw [show resE s o1 o2 R = (0, 0, false) from if_neg hs, show nextE s o1 o2 = s from if_neg hs, show whichE s o1 o2 = 0 from if_neg hs]
    rw [decide_eq_false hs] at hB
    have HB := Lib.hid hB
    have HE := Lib.hid hE0
    clear hE0 hB h hok H hs
    go_enter Tryz.func17, Tryz.ntmps17
    go_wp2_with fail
    ((with_reducible refine HB.out.mono ?_); rintro x wz ⟨rfl, rfl⟩)
    clear HB
    go_wp2
    refine bodyPost_ret (results_cell_tmp_row rfl _ _ w.heap.size 47 #[.int .i64 0, .int .i64 0] _ rfl HE.out.bl Tryz.underlying47 rfl (by kernel_rfl)) rfl ?_
    exact ⟨rfl, _, HE.out.st, HE.out.eg, HE.out.v⟩
end
end Go.Proofs.YtonhlgfgbdiapaaGreat

/- The document's engine, plain: its registers; it goes as the program's. -/
namespace Go.Proofs.YtonhlgfgbdiapaaGreat
set_option linter.unusedVariables false
set_option linter.unusedSimpArgs false
open Go.RowKit
end Go.Proofs.YtonhlgfgbdiapaaGreat

/- The document's engine: its cells; place, Read, begin. -/
namespace Go.Proofs.YtonhlgfgbdiapaaGreat
set_option linter.unusedVariables false
set_option linter.unusedSimpArgs false
open Go.RowKit
set_option maxRecDepth 100000
section
variable {own own' : Nat → Nat} {c q : Nat} {dev : Int} {mv uv : Value} {w w' : World} {t t' : Eg}
end
end Go.Proofs.YtonhlgfgbdiapaaGreat

/- The document's engine: Read, begin, Write, Reset. -/
namespace Go.Proofs.YtonhlgfgbdiapaaGreat
set_option linter.unusedVariables false
set_option linter.unusedSimpArgs false
open Go.RowKit
set_option maxRecDepth 100000
section
variable {own own' : Nat → Nat} {c q : Nat} {dev : Int} {mv uv : Value} {w w' : World} {t t' : Eg}
end
end Go.Proofs.YtonhlgfgbdiapaaGreat

/- The document's engine: Write. -/
namespace Go.Proofs.YtonhlgfgbdiapaaGreat
set_option linter.unusedVariables false
set_option linter.unusedSimpArgs false
open Go.RowKit
set_option maxRecDepth 100000
section
variable {own own' : Nat → Nat} {c q : Nat} {dev : Int} {mv uv : Value} {w w' : World} {t t' : Eg}
end
end Go.Proofs.YtonhlgfgbdiapaaGreat

/- The document's engine: Step, for any way. -/
namespace Go.Proofs.YtonhlgfgbdiapaaGreat
set_option linter.unusedVariables false
set_option linter.unusedSimpArgs false
open Go.RowKit
set_option maxRecDepth 100000
section
variable {own own' : Nat → Nat} {c q p2 : Nat} {dev : Int} {uv : Value} {w w' : World} {t t' : Eg}
section
variable {V : Nat → (Nat → Nat) → World → Prop} {C : Nat → Prop} {own0 own1 : Nat → Nat} {w0 w1 : World} {lb i j : Nat}
end
end
end Go.Proofs.YtonhlgfgbdiapaaGreat
