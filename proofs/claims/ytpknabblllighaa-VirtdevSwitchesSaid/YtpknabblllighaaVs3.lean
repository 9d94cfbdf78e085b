import Derived.Test.YtpknabblllighaaVs2
import Derived.Test.YtpknabblllighaaPlace0
/- A switch: Send. -/
namespace Go.Proofs.Ytpknabblllighaa
set_option linter.unusedVariables false
set_option linter.unusedSimpArgs false
open Go.RowKit Go.Maps
set_option maxRecDepth 100000
theorem rangeAt_upd {S : Nat → Prop} {w w' : World} {b o : Nat} {cs : List Value} (h : w.rangeAt b o cs) (hU : Upd S w w') (hb : b < w.heap.size) (hs : ¬ S b) : w'.rangeAt b o cs :=
  fun j v hv => (hU.cell (p := ⟨b, o + j, none⟩) hb hs).trans (h j v hv)
def z6 : Array Value := #[.int .u8 0, .int .u8 0, .int .u8 0, .int .u8 0, .int .u8 0, .int .u8 0]
theorem alloc6 (w : World) : (Instr.alloc 53 true (.tuple #[])).run Try.prog w = .ok (.pointer (some ⟨w.heap.size, 0, none⟩)) (w.alloc (.cells z6 53)) := by kernel_rfl
theorem wp_allocC {a : Act} {w : World} {o : Oper} {K : Act → World → Prop} {Q : Exit → Act → World → Prop} (hop : o.op = .alloc 53)
    (h : ∀ b w', w.heap.size ≤ b → Blk w' b 53 z6 → Upd (fun _ => False) w w' → K (a.put o.dst (.pointer (some ⟨b, 0, none⟩))) w') : o.wp Try.prog a w K Q :=
  wp_run (exec_alloc hop (alloc6 w)) (h _ _ (Nat.le_refl _) (Blk.new _ _ _) ((Upd.refl _ _).alloc _))
theorem infoC : (Try.prog.info? 53).map (·.size) = some 6 := by kernel_rfl
theorem wp_storeC {a : Act} {w : World} {o : Oper} {K : Act → World → Prop} {Q : Exit → Act → World → Prop} (x y : Operand) (hop : o.op = .store 53 x y) (b : Nat) (k : List Int) (hk : k.length = 6) (hx : a.eval x = .pointer (some ⟨b, 0, none⟩)) (hy : a.eval y = encC k)
    (cs : Array Value) (hcs : cs.size = 6) (hb : Blk w b 53 cs)
    (h : ∀ w', Blk w' b 53 (k.map (fun b => Value.int .u8 b)).toArray → Upd (· = b) w w' → K (a.put o.dst undef) w') : o.wp Try.prog a w K Q := by
  have hsz : (k.map (fun b => Value.int .u8 b)).toArray.size = 6 := by simp [hk]
  refine wp_store_row _ x y hop b _ hx hy _ cs hb (by rw [hsz]; exact infoC) (by rw [hsz, hcs]) (Array.all_eq_true_iff_forall_mem.2 (fun v hv => ?_)) (h _ (hb.setRow _) ((Upd.refl (fun x => x = b) _).setRow (g := b) (.inl rfl) _))
  have hv : v ∈ k.map (fun b => Value.int .u8 b) := by simpa using hv
  obtain ⟨q, _, rfl⟩ := List.mem_map.1 hv
  rfl
theorem wp_loadC {a : Act} {w : World} {o : Oper} (x : Operand) (hop : o.op = .load 53 x) (b : Nat) (k : List Int) (hk : k.length = 6) (hx : a.eval x = .pointer (some ⟨b, 0, none⟩)) (hb : Blk w b 53 (k.map (fun b => Value.int .u8 b)).toArray) :
    (execOp a.eval o).run Try.prog w = .ok (.value (encC k)) w :=
  exec_load hop _ hx (run_loadAt_mid w b 0 _ (k.map (fun b => Value.int .u8 b)) _ (fun j v hv => by rw [hb.cell]; simpa using hv) Try.underlying53 rfl (by rw [infoC, List.length_map, hk]))
theorem wp_loadF {a : Act} {w : World} {o : Oper} (x : Operand) (hop : o.op = .load 53 x) (g q : Nat) (k : List Int) (hk : k.length = 6) (hx : a.eval x = .pointer (some ⟨g, q, none⟩)) (hb : w.rangeAt g q (k.map (fun b => Value.int .u8 b))) :
    (execOp a.eval o).run Try.prog w = .ok (.value (encC k)) w :=
  exec_load hop _ hx (run_loadAt_mid w g q _ (k.map (fun b => Value.int .u8 b)) _ hb Try.underlying53 rfl (by rw [infoC, List.length_map, hk]))
theorem zeroI (w : World) : (zeroValue 3).run Try.prog w = .ok (.int .i64 0) w := by kernel_rfl
theorem int_parts : ∃ (i : TypeInfo) (z : Value), Try.prog.info? 3 = some i ∧ i.zero = some z ∧ i.size = 1 ∧ i.bytes = 8 ∧ z.cells.size = 1 := by
  have h : (Try.prog.info? 3).map (fun i => (i.zero, i.size, i.bytes)) = some (some (.int .i64 0), 1, 8) := by kernel_rfl
  obtain ⟨i, hi, hz, hs, hb⟩ := info_parts h
  exact ⟨i, _, hi, hz, hs, hb, rfl⟩
theorem cells_new1 (w : World) (t : TypeId) (a : Value) : ∀ j u, [a][j]? = some u → (w.alloc (.cells #[a] t)).cell? ((⟨w.heap.size, 0, none⟩ : Addr).add j) = some u := by
  intro j u h
  rw [show (⟨w.heap.size, 0, none⟩ : Addr).add j = ⟨w.heap.size, j, none⟩ from by unfold Addr.add; split <;> simp_all, (Blk.new w t #[a]).cell]
  simpa using h
/-- a list of ports as cells -/
def psC (l : List Nat) : List Value := l.map (fun (p : Nat) => Value.int .i64 (p : Int))
theorem outS_snoc (k port : Nat) (at_ : Option Nat) : outS (k + 1) port at_ = outS k port at_ ++ if (decide (k ≠ port) && (at_.isNone || decide (at_ = some k))) = true then [k] else [] := by
  unfold outS
  rw [List.range_succ, List.filter_append, List.filter_cons, List.filter_nil]
theorem outS_len (k port : Nat) (at_ : Option Nat) : (outS k port at_).length ≤ k := Nat.le_trans (List.length_filter_le _ _) (by simp)
theorem KnAt.learn {s : Sw} {kv : List (List Int × Value)} (h : KnAt s kv) (port : Nat) (fr : List Int) (f0 : Int) (hc : f0 % 2 = 0 ∧ ((s.kn fr).isSome = true ∨ s.n < 32)) : KnAt (learnS s port fr f0) (kvPut kv fr (.int .i64 (port : Int))) := by
  unfold learnS
  rw [if_pos hc]
  refine ⟨fun k => ?_, ?_⟩
  · rw [kvGet_put]
    by_cases e : k = fr
    · rw [if_pos e]; simp only [if_pos e]; rfl
    · rw [if_neg e]; simp only [if_neg e]; exact h.get k
  · rw [kvPut_length, h.get, h.len]
    simp
theorem KnAt.keep {s : Sw} {kv : List (List Int × Value)} (h : KnAt s kv) (port : Nat) (fr : List Int) (f0 : Int) (hc : ¬ (f0 % 2 = 0 ∧ ((s.kn fr).isSome = true ∨ s.n < 32))) : KnAt (learnS s port fr f0) kv := by
  unfold learnS
  rw [if_neg hc]
  exact h
/-- a frame is refused -/
theorem sw_Send_no {own : Nat → Nat} {c : Nat} {w : World} {p ports : Nat} {s : Sw} (h : SwAt own c w p ports s) (hp : ports ≤ 8) (port : Int) (h0 : -9223372036854775808 ≤ port) (h1 : port ≤ 9223372036854775807) (A : Option Addr) (n cap : Nat) (hn : n ≤ 9223372036854775807)
    (hno : ¬ (0 ≤ port ∧ port < (ports : Int) ∧ 14 ≤ n)) :
    Calls Try.prog 9 #[.pointer (some ⟨p, 0, none⟩), .int .i64 port, .slice A n cap] w fun e w' => e = .returned (.slice none 0 0) ∧ w' = w := by
  obtain ⟨mb, kv, hb, ho, hom, hm, hk⟩ := h
  have c0 : w.cell? ⟨p, 0, none⟩ = some (.int .i64 (ports : Int)) := hb.cell 0
  clear hb ho hom hm hk
  have hcs : port < 0 ∨ (¬ port < 0 ∧ (ports : Int) ≤ port) ∨ (¬ port < 0 ∧ ¬ (ports : Int) ≤ port ∧ (n : Int) < 14) := by omega
  go_enter Try.func9, Try.ntmps9
  rcases hcs with h2 | ⟨h2, h3⟩ | ⟨h2, h3, h4⟩
  all_goals
    go_wp2
    go_ret
    exact ⟨rfl, rfl⟩
theorem meas_lt (ports k : Nat) (h : k < ports) (h8 : ports ≤ 8) : ports - (intOf (.int .i64 (wrap64 ((k : Int) + 1)))).toNat < ports - (intOf (.int .i64 (k : Int))).toNat := by
  rw [IntWalk.wrap64_in ((k : Int) + 1) (by omega)]
  have e1 : (intOf (.int .i64 ((k : Int) + 1))).toNat = k + 1 := by show ((k : Int) + 1).toNat = k + 1; omega
  have e2 : (intOf (.int .i64 (k : Int))).toNat = k := by show ((k : Int)).toNat = k; omega
  rw [e1, e2]
  omega
set_option maxHeartbeats 3200000 in
/-- a frame is sent -/
theorem sw_Send {own : Nat → Nat} {c : Nat} {w : World} {p ports : Nat} {s : Sw} (h : SwAt own c w p ports s) (hp : ports ≤ 8) (port : Nat) (hpt : port < ports) (A : Option Addr) (n cap : Nat) (bs : List Int) (hr : Reads w w.heap.size 1 A n (bs.map (fun b => Value.int .u8 b))) (hb8 : ∀ b ∈ bs, 0 ≤ b ∧ b < 256)
    (hn : 14 ≤ n) (hcap : n ≤ cap) (hcm : cap ≤ 9223372036854775807) (hkn : ∀ k q, s.kn k = some q → q < 1000) (hsn : s.n ≤ 1000) (f0 : Int) (tk fr : List Int) (hto : bs.take 6 = tk) (hfr : (bs.drop 6).take 6 = fr) (hf0 : fr.head? = some f0) (d : Nat) (hd : d ≠ c) :
    Calls Try.prog 9 #[.pointer (some ⟨p, 0, none⟩), .int .i64 (port : Int), .slice A n cap] w fun e w' => ∃ v own', e = .returned v ∧ Step (· = c) own w own' w' ∧ SwAt own' c w' p ports (learnS s port fr f0) ∧
      Rw 3 1 own' d w' v (outS ports port ((learnS s port fr f0).kn tk)).length (psC (outS ports port ((learnS s port fr f0).kn tk))) := by
  have hbl : bs.length = n := by have := hr.1; simpa using this
  have ht6 : tk.length = 6 := by rw [← hto, List.length_take]; omega
  have hf6 : fr.length = 6 := by rw [← hfr, List.length_take, List.length_drop]; omega
  have hkt : keyOk tk := ⟨ht6, fun b hb => hb8 b (by rw [← hto] at hb; exact List.mem_of_mem_take hb)⟩
  have hkf : keyOk fr := ⟨hf6, fun b hb => hb8 b (by rw [← hfr] at hb; exact List.mem_of_mem_drop (List.mem_of_mem_take hb))⟩
  obtain ⟨lt_, hlt⟩ := keyC_mk tk hkt
  obtain ⟨lf_, hlf⟩ := keyC_mk fr hkf
  obtain ⟨g, o, rfl, hgl, hc⟩ := hr.first (by omega) (by decide)
  have hrt : w.rangeAt g o (tk.map (fun b => Value.int .u8 b)) := fun j v hv => hc j v (by
    rw [← hto, List.map_take, List.getElem?_take] at hv
    split at hv
    · exact hv
    · cases hv)
  have hrf : w.rangeAt g (o + 6) (fr.map (fun b => Value.int .u8 b)) := fun j v hv => by
    rw [Nat.add_assoc]
    refine hc (6 + j) v ?_
    rw [← hfr, List.map_take, List.getElem?_take, List.map_drop, List.getElem?_drop] at hv
    split at hv
    · exact hv
    · cases hv
  have hF0 : 0 ≤ f0 ∧ f0 < 256 := hkf.2 f0 (List.mem_of_mem_head? hf0)
  obtain ⟨mb, kv, hb, ho, hom, hm, hk⟩ := h
  have c0 : w.cell? ⟨p, 0, none⟩ = some (.int .i64 (ports : Int)) := hb.cell 0
  have HW := Lib.hid (And.intro (And.intro hb (And.intro ho hom)) (And.intro hm hk))
  have HR := Lib.hid (And.intro hrt (And.intro hrf hgl))
  have HL := Lib.hid (And.intro (And.intro ht6 hf6) (And.intro hlt hlf))
  have HF := Lib.hid (And.intro hF0 (And.intro hf0 (And.intro hkn hsn)))
  have h1 : ¬ ((port : Int) < 0) := by omega
  have h2 : ¬ ((ports : Int) ≤ (port : Int)) := by omega
  have h3 : ¬ ((n : Int) < 14) := by omega
  have h6 : (6 : Nat) ≤ cap := by omega
  have h12 : (12 : Nat) ≤ cap := by omega
  have hc6 : ¬ cap = 6 := by omega
  clear hb ho hom hm hk hrt hrf hc ht6 hf6 hkt hkf hlt hlf hr hb8 hbl hto hfr hF0 hf0
  go_enter Try.func9, Try.ntmps9
  go_upto_region 4 with fail
  go_cut [7, 8] (fun s7 s8 wx => Hid (∃ p7 p8, s7 = .pointer (some ⟨p7, 0, none⟩) ∧ s8 = .pointer (some ⟨p8, 0, none⟩) ∧ p7 ≠ p8 ∧ w.heap.size ≤ p7 ∧ w.heap.size ≤ p8 ∧ Blk wx p7 53 (tk.map (fun b => Value.int .u8 b)).toArray ∧ Blk wx p8 53 (fr.map (fun b => Value.int .u8 b)).toArray ∧ Upd (fun _ => False) w wx))
  case first =>
    go_wp2_with fail
    refine wpE_region (S := fun (W' : World) => Upd (fun _ => False) w W') (s := 11) (by kernel_rfl) ?_
    have hS : (fun (W' : World) => Upd (fun _ => False) w W') _ := (Upd.refl _ _).drew
    refine wpE_take (i := 0) (oi := { dst := some 30, op := Go.Op.move (Go.Operand.tmp 2), type := 34, pos := "switch.go:30", after := #[], guard := none }) (v := ?_) rfl (by kernel_rfl) (fun _ _ _ h => h) (Or.inl ⟨by rfl, fun W hW => ?_⟩) hS ?_
    rotate_left
    · go_simp; (try go_bits); (try rw [if_pos (by omega)]); (try with_reducible rfl)
    (try simp only [Act.put, List.setIfInBounds_toArray, List.set_cons_succ, List.set_cons_zero])
    refine wpE_take (i := 1) (oi := { dst := some 31, op := Go.Op.slice 34 (Go.Operand.tmp 30) none (some (Go.Operand.const (Go.Value.int Go.IntKind.i64 6))) none, type := 34, pos := "switch.go:30", after := #[{ on := 0, ground := Go.Ground.data }], guard := none }) (v := ?_) rfl (by kernel_rfl) (fun _ _ _ h => h) (Or.inl ⟨by rfl, fun W hW => ?_⟩) hS ?_
    rotate_left
    · go_simp; (try go_bits); (try rw [if_pos (by omega)]); (try with_reducible rfl)
    (try simp only [Act.put, List.setIfInBounds_toArray, List.set_cons_succ, List.set_cons_zero])
    refine wpE_take (i := 2) (oi := { dst := some 32, op := Go.Op.sliceToArrayPointer 53 (Go.Operand.tmp 31), type := 0, pos := "switch.go:30", after := #[{ on := 1, ground := Go.Ground.data }], guard := none }) (v := .pointer (some ⟨g, o, none⟩)) rfl (by kernel_rfl) (fun _ _ _ h => h) (Or.inl ⟨by rfl, fun W hW => ?_⟩) hS ?_
    · exact exec_arrayAt _ _ 6 (.tmp 31) rfl _ 6 _ rfl Try.underlying53 (by decide)
    (try simp only [Act.put, List.setIfInBounds_toArray, List.set_cons_succ, List.set_cons_zero])
    refine wpE_take (i := 3) (oi := { dst := some 33, op := Go.Op.load 53 (Go.Operand.tmp 32), type := 53, pos := "switch.go:30", after := #[{ on := 2, ground := Go.Ground.data }], guard := none }) (v := encC tk) rfl (by kernel_rfl) (fun _ _ _ h => h) (Or.inl ⟨by rfl, fun W hW => ?_⟩) hS ?_
    · exact wp_loadF (.tmp 32) rfl g o tk HL.out.1.1 rfl (rangeAt_upd HR.out.1 hW HR.out.2.2 (fun h => h))
    (try simp only [Act.put, List.setIfInBounds_toArray, List.set_cons_succ, List.set_cons_zero])
    refine wpE_take (i := 4) (oi := { dst := some 34, op := Go.Op.move (Go.Operand.tmp 2), type := 34, pos := "switch.go:30", after := #[], guard := none }) (v := ?_) rfl (by kernel_rfl) (fun _ _ _ h => h) (Or.inl ⟨by rfl, fun W hW => ?_⟩) hS ?_
    rotate_left
    · go_simp; (try go_bits); (try rw [if_pos (by omega)]); (try with_reducible rfl)
    (try simp only [Act.put, List.setIfInBounds_toArray, List.set_cons_succ, List.set_cons_zero])
    refine wpE_take (i := 5) (oi := { dst := some 35, op := Go.Op.slice 34 (Go.Operand.tmp 34) (some (Go.Operand.const (Go.Value.int Go.IntKind.i64 6))) (some (Go.Operand.const (Go.Value.int Go.IntKind.i64 12))) none, type := 34, pos := "switch.go:30", after := #[{ on := 4, ground := Go.Ground.data }], guard := none }) (v := ?_) rfl (by kernel_rfl) (fun _ _ _ h => h) (Or.inl ⟨by rfl, fun W hW => ?_⟩) hS ?_
    rotate_left
    · go_simp; (try go_bits); (try rw [if_pos (by omega)]); (try with_reducible rfl)
    (try simp only [Act.put, List.setIfInBounds_toArray, List.set_cons_succ, List.set_cons_zero])
    refine wpE_take (i := 6) (oi := { dst := some 36, op := Go.Op.sliceToArrayPointer 53 (Go.Operand.tmp 35), type := 0, pos := "switch.go:30", after := #[{ on := 5, ground := Go.Ground.data }, { on := 10, ground := Go.Ground.gcOnly Go.Departure.lateStores }], guard := none }) (v := .pointer (some ⟨g, o + 6, none⟩)) rfl (by kernel_rfl) (fun _ _ _ h => h) (Or.inl ⟨by rfl, fun W hW => ?_⟩) hS ?_
    · exact exec_arrayAt _ _ 6 (.tmp 35) rfl _ 6 _ rfl Try.underlying53 (by decide)
    (try simp only [Act.put, List.setIfInBounds_toArray, List.set_cons_succ, List.set_cons_zero])
    refine wpE_take (i := 7) (oi := { dst := some 37, op := Go.Op.load 53 (Go.Operand.tmp 36), type := 53, pos := "switch.go:30", after := #[{ on := 6, ground := Go.Ground.data }, { on := 10, ground := Go.Ground.gcOnly Go.Departure.lateStores }], guard := none }) (v := encC fr) rfl (by kernel_rfl) (fun _ _ _ h => h) (Or.inl ⟨by rfl, fun W hW => ?_⟩) hS ?_
    · exact wp_loadF (.tmp 36) rfl g (o + 6) fr HL.out.1.2 rfl (rangeAt_upd HR.out.2.1 hW HR.out.2.2 (fun h => h))
    (try simp only [Act.put, List.setIfInBounds_toArray, List.set_cons_succ, List.set_cons_zero])
    refine wpE_two (i := 8) (oi := { dst := some 7, op := Go.Op.alloc 53, type := 0, pos := "switch.go:30", after := #[], guard := none }) (j := 9) (oj := { dst := some 8, op := Go.Op.alloc 53, type := 0, pos := "switch.go:30", after := #[], guard := none }) rfl rfl (by kernel_rfl) (by rfl) (by rfl) (fun K hK => ?_) (fun K hK => ?_)
    refine wp_allocC rfl (fun p7 w' hge7 B7 hU => ?_); have hge7 := Nat.le_trans hS.size hge7; (try have hne : p7 ≠ p8 := by have := B8.lt; omega); (try have B8 := B8.upd hU (fun h => h)); have hS := hS.trans hU; refine hK _ _ hS ?_; clear hK K hU
    (try simp only [Act.put, List.setIfInBounds_toArray, List.set_cons_succ, List.set_cons_zero])
    refine wpE_only (i := 9) (oi := { dst := some 8, op := Go.Op.alloc 53, type := 0, pos := "switch.go:30", after := #[], guard := none }) rfl (by kernel_rfl) (by rfl) (fun K hK => ?_)
    refine wp_allocC rfl (fun p8 w' hge8 B8 hU => ?_); have hge8 := Nat.le_trans hS.size hge8; (try have hne : p7 ≠ p8 := by have := B7.lt; omega); (try have B7 := B7.upd hU (fun h => h)); have hS := hS.trans hU; refine hK _ _ hS ?_; clear hK K hU
    (try simp only [Act.put, List.setIfInBounds_toArray, List.set_cons_succ, List.set_cons_zero])
    refine wpE_only (i := 10) (oi := { dst := none, op := Go.Op.store 53 (Go.Operand.tmp 7) (Go.Operand.tmp 33), type := 0, pos := "switch.go:30", after := #[{ on := 8, ground := Go.Ground.data }, { on := 3, ground := Go.Ground.data }, { on := 0, ground := Go.Ground.phase }, { on := 1, ground := Go.Ground.phase }, { on := 2, ground := Go.Ground.phase }, { on := 3, ground := Go.Ground.phase }, { on := 4, ground := Go.Ground.textOnly Go.Departure.lateStores }, { on := 5, ground := Go.Ground.textOnly Go.Departure.lateStoresUnsure }, { on := 6, ground := Go.Ground.textOnly Go.Departure.lateStores }, { on := 7, ground := Go.Ground.textOnly Go.Departure.lateStores }, { on := 8, ground := Go.Ground.phase }, { on := 9, ground := Go.Ground.phase }], guard := none }) rfl (by kernel_rfl) (by rfl) (fun K hK => ?_)
    refine wp_storeC (.tmp 7) (.tmp 33) rfl p7 tk HL.out.1.1 rfl rfl z6 rfl B7 (fun w' B7 hU => ?_); have B8 := B8.upd hU (fun h => hne h.symm); have hS := hS.trans' hU (fun i hi e => by omega); refine hK _ _ hS ?_; clear hK K hU
    (try simp only [Act.put, List.setIfInBounds_toArray, List.set_cons_succ, List.set_cons_zero])
    refine wpE_last (oi := { dst := none, op := Go.Op.store 53 (Go.Operand.tmp 8) (Go.Operand.tmp 37), type := 0, pos := "switch.go:30", after := #[{ on := 9, ground := Go.Ground.data }, { on := 7, ground := Go.Ground.data }, { on := 10, ground := Go.Ground.chain }, { on := 0, ground := Go.Ground.phase }, { on := 1, ground := Go.Ground.phase }, { on := 2, ground := Go.Ground.phase }, { on := 3, ground := Go.Ground.phase }, { on := 4, ground := Go.Ground.phase }, { on := 5, ground := Go.Ground.phase }, { on := 6, ground := Go.Ground.phase }, { on := 7, ground := Go.Ground.phase }, { on := 8, ground := Go.Ground.phase }, { on := 9, ground := Go.Ground.phase }, { on := 10, ground := Go.Ground.phase }], guard := none }) rfl (by kernel_rfl) (by kernel_rfl) (by rfl) (fun K hK => ?_)
    refine wp_storeC (.tmp 8) (.tmp 37) rfl p8 fr HL.out.1.2 rfl rfl z6 rfl B8 (fun w' B8 hU => ?_); have B7 := B7.upd hU (fun h => hne h); have hS := hS.trans' hU (fun i hi e => by omega); refine hK _ _ ?_; clear hK K hU
    rotate_left
    refine wp_allocC rfl (fun p8 w' hge8 B8 hU => ?_); have hge8 := Nat.le_trans hS.size hge8; (try have hne : p7 ≠ p8 := by have := B7.lt; omega); (try have B7 := B7.upd hU (fun h => h)); have hS := hS.trans hU; refine hK _ _ hS ?_; clear hK K hU
    (try simp only [Act.put, List.setIfInBounds_toArray, List.set_cons_succ, List.set_cons_zero])
    refine wpE_only (i := 8) (oi := { dst := some 7, op := Go.Op.alloc 53, type := 0, pos := "switch.go:30", after := #[], guard := none }) rfl (by kernel_rfl) (by rfl) (fun K hK => ?_)
    refine wp_allocC rfl (fun p7 w' hge7 B7 hU => ?_); have hge7 := Nat.le_trans hS.size hge7; (try have hne : p7 ≠ p8 := by have := B8.lt; omega); (try have B8 := B8.upd hU (fun h => h)); have hS := hS.trans hU; refine hK _ _ hS ?_; clear hK K hU
    (try simp only [Act.put, List.setIfInBounds_toArray, List.set_cons_succ, List.set_cons_zero])
    refine wpE_only (i := 10) (oi := { dst := none, op := Go.Op.store 53 (Go.Operand.tmp 7) (Go.Operand.tmp 33), type := 0, pos := "switch.go:30", after := #[{ on := 8, ground := Go.Ground.data }, { on := 3, ground := Go.Ground.data }, { on := 0, ground := Go.Ground.phase }, { on := 1, ground := Go.Ground.phase }, { on := 2, ground := Go.Ground.phase }, { on := 3, ground := Go.Ground.phase }, { on := 4, ground := Go.Ground.textOnly Go.Departure.lateStores }, { on := 5, ground := Go.Ground.textOnly Go.Departure.lateStoresUnsure }, { on := 6, ground := Go.Ground.textOnly Go.Departure.lateStores }, { on := 7, ground := Go.Ground.textOnly Go.Departure.lateStores }, { on := 8, ground := Go.Ground.phase }, { on := 9, ground := Go.Ground.phase }], guard := none }) rfl (by kernel_rfl) (by rfl) (fun K hK => ?_)
    refine wp_storeC (.tmp 7) (.tmp 33) rfl p7 tk HL.out.1.1 rfl rfl z6 rfl B7 (fun w' B7 hU => ?_); have B8 := B8.upd hU (fun h => hne h.symm); have hS := hS.trans' hU (fun i hi e => by omega); refine hK _ _ hS ?_; clear hK K hU
    (try simp only [Act.put, List.setIfInBounds_toArray, List.set_cons_succ, List.set_cons_zero])
    refine wpE_last (oi := { dst := none, op := Go.Op.store 53 (Go.Operand.tmp 8) (Go.Operand.tmp 37), type := 0, pos := "switch.go:30", after := #[{ on := 9, ground := Go.Ground.data }, { on := 7, ground := Go.Ground.data }, { on := 10, ground := Go.Ground.chain }, { on := 0, ground := Go.Ground.phase }, { on := 1, ground := Go.Ground.phase }, { on := 2, ground := Go.Ground.phase }, { on := 3, ground := Go.Ground.phase }, { on := 4, ground := Go.Ground.phase }, { on := 5, ground := Go.Ground.phase }, { on := 6, ground := Go.Ground.phase }, { on := 7, ground := Go.Ground.phase }, { on := 8, ground := Go.Ground.phase }, { on := 9, ground := Go.Ground.phase }, { on := 10, ground := Go.Ground.phase }], guard := none }) rfl (by kernel_rfl) (by kernel_rfl) (by rfl) (fun K hK => ?_)
    refine wp_storeC (.tmp 8) (.tmp 37) rfl p8 fr HL.out.1.2 rfl rfl z6 rfl B8 (fun w' B8 hU => ?_); have B7 := B7.upd hU (fun h => hne h); have hS := hS.trans' hU (fun i hi e => by omega); refine hK _ _ ?_; clear hK K hU
    rotate_left
    all_goals
      have H3 := Lib.hid (And.intro (And.intro hge7 hge8) (And.intro B7 (And.intro B8 hS)))
      clear B7 B8 hS
      go_wp2
      go_meet
      exact ⟨_, _, rfl, rfl, hne, H3.out.1.1, H3.out.1.2, H3.out.2.1, H3.out.2.2.1, H3.out.2.2.2⟩
  case rest =>
    obtain ⟨p7, p8, rfl, rfl, hne, hge7, hge8, B7, B8, hS⟩ := hcut.out
    obtain ⟨w', hw⟩ : ∃ w', w' = wc := ⟨_, rfl⟩
    subst hw
    clear hcut c0
    have hb := HW.out.1.1.upd hS (fun h => h)
    have hm := HW.out.2.1.upd hS (fun h => h)
    have c0 : w'.cell? ⟨p, 0, none⟩ = some (.int .i64 (ports : Int)) := hb.cell 0
    have c1 : w'.cell? ⟨p, 1, none⟩ = some (.map (some mb)) := hb.cell 1
    have e8 : w'.cell? ⟨p8, 0, none⟩ = some (.int .u8 f0) := by
      rw [B8.cell]
      have := HF.out.2.1
      rw [List.head?_eq_getElem?] at this
      simp [this]
    have hand : bits .and .u8 f0 1 = f0 % 2 := bits_mask .u8 8 (by decide) wraps_u8 1 (by decide) f0 HF.out.1.1 HF.out.1.2
    obtain ⟨b1, hB1⟩ : ∃ b, (s.kn fr).isSome = b := ⟨_, rfl⟩
    have hb1 : (kvGet kv fr).isSome = b1 := by rw [HW.out.2.2.get, ← hB1]; simp
    have hln := MapB.len (w := w'.drew) hm Try.underlying43
    rw [HW.out.2.2.len] at hln
    have HB := Lib.hid (And.intro (And.intro B7 B8) (And.intro hb hm))
    have HS := Lib.hid (And.intro hS (And.intro hne (And.intro hge7 hge8)))
    obtain ⟨V1, hV1⟩ : ∃ V, (kvGet kv fr).getD (.int .i64 0) = V := ⟨_, rfl⟩
    have HV := Lib.hid (And.intro hV1 hb1)
    clear hb hm B7 B8 hS hV1 hb1 hne hge7 hge8
    go_wp2_with fail
    refine wpE_region (S := fun (W' : World) => W' = w'.drew) (s := 10) (by kernel_rfl) ?_
    have hS : (fun (W' : World) => W' = w'.drew) _ := rfl
    refine wpE_take (i := 0) (oi := { dst := some 39, op := Go.Op.move (Go.Operand.tmp 0), type := 24, pos := "switch.go:31", after := #[], guard := none }) (v := ?_) rfl (by kernel_rfl) (fun _ _ _ h => h) (Or.inl ⟨by rfl, fun W hW => ?_⟩) hS ?_
    rotate_left
    · (obtain rfl : W = w'.drew := hW); go_simp; (try go_bits); (try rw [if_pos (by omega)]); (try with_reducible rfl)
    (try simp only [Act.put, List.setIfInBounds_toArray, List.set_cons_succ, List.set_cons_zero])
    refine wpE_take (i := 1) (oi := { dst := some 40, op := Go.Op.nilCheck (Go.Operand.tmp 39), type := 0, pos := "switch.go:31", after := #[{ on := 0, ground := Go.Ground.data }], guard := none }) (v := ?_) rfl (by kernel_rfl) (fun _ _ _ h => h) (Or.inl ⟨by rfl, fun W hW => ?_⟩) hS ?_
    rotate_left
    · (obtain rfl : W = w'.drew := hW); go_simp; (try go_bits); (try rw [if_pos (by omega)]); (try with_reducible rfl)
    (try simp only [Act.put, List.setIfInBounds_toArray, List.set_cons_succ, List.set_cons_zero])
    refine wpE_take (i := 2) (oi := { dst := some 41, op := Go.Op.fieldAddr 45 (Go.Operand.tmp 40) 1, type := 0, pos := "switch.go:31", after := #[{ on := 1, ground := Go.Ground.data }], guard := none }) (v := ?_) rfl (by kernel_rfl) (fun _ _ _ h => h) (Or.inl ⟨by rfl, fun W hW => ?_⟩) hS ?_
    rotate_left
    · (obtain rfl : W = w'.drew := hW); go_simp; (try go_bits); (try rw [if_pos (by omega)]); (try with_reducible rfl)
    (try simp only [Act.put, List.setIfInBounds_toArray, List.set_cons_succ, List.set_cons_zero])
    refine wpE_take (i := 3) (oi := { dst := some 42, op := Go.Op.load 43 (Go.Operand.tmp 41), type := 43, pos := "switch.go:31", after := #[{ on := 2, ground := Go.Ground.data }], guard := none }) (v := ?_) rfl (by kernel_rfl) (fun _ _ _ h => h) (Or.inl ⟨by rfl, fun W hW => ?_⟩) hS ?_
    rotate_left
    · (obtain rfl : W = w'.drew := hW); go_simp; (try go_bits); (try rw [if_pos (by omega)]); (try with_reducible rfl)
    (try simp only [Act.put, List.setIfInBounds_toArray, List.set_cons_succ, List.set_cons_zero])
    refine wpE_take (i := 4) (oi := { dst := some 43, op := Go.Op.load 53 (Go.Operand.tmp 8), type := 53, pos := "switch.go:31", after := #[], guard := none }) (v := encC fr) rfl (by kernel_rfl) (fun _ _ _ h => h) (Or.inl ⟨by rfl, fun W hW => ?_⟩) hS ?_
    · (obtain rfl : W = w'.drew := hW); exact wp_loadC (.tmp 8) rfl p8 fr HL.out.1.2 rfl HB.out.1.2
    (try simp only [Act.put, List.setIfInBounds_toArray, List.set_cons_succ, List.set_cons_zero])
    refine wpE_take (i := 5) (oi := { dst := some 44, op := Go.Op.lookup 43 (Go.Operand.tmp 42) (Go.Operand.tmp 43) true, type := 54, pos := "switch.go:31", after := #[{ on := 3, ground := Go.Ground.data }, { on := 4, ground := Go.Ground.data }], guard := none }) (v := .tuple #[V1, .bool b1]) rfl (by kernel_rfl) (fun _ _ _ h => h) (Or.inl ⟨by rfl, fun W hW => ?_⟩) hS ?_
    · (obtain rfl : W = w'.drew := hW); exact exec_lookB (.tmp 42) (.tmp 43) rfl (show MapB Try.prog 53 encC w'.drew mb kv from HB.out.2.2) keyC encC_inj Try.underlying43 (zeroI _) rfl (q := fr) rfl HL.out.2.2 _ _ HV.out.1 HV.out.2
    (try simp only [Act.put, List.setIfInBounds_toArray, List.set_cons_succ, List.set_cons_zero])
    refine wpE_take (i := 6) (oi := { dst := some 38, op := Go.Op.move (Go.Operand.tmp 44), type := 54, pos := "switch.go:31", after := #[{ on := 5, ground := Go.Ground.data }], guard := none }) (v := ?_) rfl (by kernel_rfl) (fun _ _ _ h => h) (Or.inl ⟨by rfl, fun W hW => ?_⟩) hS ?_
    rotate_left
    · (obtain rfl : W = w'.drew := hW); go_simp; (try go_bits); (try rw [if_pos (by omega)]); (try with_reducible rfl)
    (try simp only [Act.put, List.setIfInBounds_toArray, List.set_cons_succ, List.set_cons_zero])
    refine wpE_take (i := 7) (oi := { dst := some 45, op := Go.Op.extract (Go.Operand.tmp 38) 0, type := 3, pos := "switch.go:31", after := #[{ on := 6, ground := Go.Ground.data }], guard := none }) (v := ?_) rfl (by kernel_rfl) (fun _ _ _ h => h) (Or.inl ⟨by rfl, fun W hW => ?_⟩) hS ?_
    rotate_left
    · (obtain rfl : W = w'.drew := hW); go_simp; (try go_bits); (try rw [if_pos (by omega)]); (try with_reducible rfl)
    (try simp only [Act.put, List.setIfInBounds_toArray, List.set_cons_succ, List.set_cons_zero])
    refine wpE_take (i := 8) (oi := { dst := some 46, op := Go.Op.extract (Go.Operand.tmp 38) 1, type := 4, pos := "switch.go:31", after := #[{ on := 6, ground := Go.Ground.data }, { on := 9, ground := Go.Ground.gcOnly Go.Departure.lateStores }], guard := none }) (v := ?_) rfl (by kernel_rfl) (fun _ _ _ h => h) (Or.inl ⟨by rfl, fun W hW => ?_⟩) hS ?_
    rotate_left
    · (obtain rfl : W = w'.drew := hW); go_simp; (try go_bits); (try rw [if_pos (by omega)]); (try with_reducible rfl)
    (try simp only [Act.put, List.setIfInBounds_toArray, List.set_cons_succ, List.set_cons_zero])
    refine wpE_only (i := 9) (oi := { dst := some 9, op := Go.Op.assign (Go.Operand.tmp 45), type := 3, pos := "switch.go:31", after := #[{ on := 7, ground := Go.Ground.data }, { on := 0, ground := Go.Ground.phase }, { on := 1, ground := Go.Ground.phase }, { on := 2, ground := Go.Ground.phase }, { on := 3, ground := Go.Ground.phase }, { on := 4, ground := Go.Ground.phase }, { on := 5, ground := Go.Ground.phase }, { on := 6, ground := Go.Ground.phase }, { on := 7, ground := Go.Ground.phase }, { on := 8, ground := Go.Ground.textOnly Go.Departure.lateStores }], guard := none }) rfl (by kernel_rfl) (by rfl) (fun K hK => ?_)
    go_simp; (try go_bits); refine hK _ _ hS ?_; clear hK K
    (try simp only [Act.put, List.setIfInBounds_toArray, List.set_cons_succ, List.set_cons_zero])
    refine wpE_last (oi := { dst := some 10, op := Go.Op.assign (Go.Operand.tmp 46), type := 4, pos := "switch.go:31", after := #[{ on := 8, ground := Go.Ground.data }, { on := 9, ground := Go.Ground.chain }, { on := 0, ground := Go.Ground.phase }, { on := 1, ground := Go.Ground.phase }, { on := 2, ground := Go.Ground.phase }, { on := 3, ground := Go.Ground.phase }, { on := 4, ground := Go.Ground.phase }, { on := 5, ground := Go.Ground.phase }, { on := 6, ground := Go.Ground.phase }, { on := 7, ground := Go.Ground.phase }, { on := 8, ground := Go.Ground.phase }, { on := 9, ground := Go.Ground.phase }], guard := none }) rfl (by kernel_rfl) (by kernel_rfl) (by rfl) (fun K hK => ?_)
    go_simp; (try go_bits); refine hK _ _ ?_; clear hK K
    obtain ⟨B, hB⟩ : ∃ B : Bool, decide (f0 % 2 = 0 ∧ ((s.kn fr).isSome = true ∨ s.n < 32)) = B := ⟨_, rfl⟩
    have HBo := Lib.hid (And.intro hB hB1)
    clear hB hB1
    go_upto_region 5 with fail
    go_cut [10, 61] (fun s10 s61 wx => s61 = .bool B ∧ wx = w'.drew)
    case first =>
      by_cases he : f0 % 2 = 0
      · cases b1
        · by_cases hl : s.n < 32
          · have hl' : (s.n : Int) < 32 := by omega
            go_wp2
            go_meet
            exact ⟨by rw [← HBo.out.1, decide_eq_true ⟨he, .inr hl⟩], rfl⟩
          · have hl' : ¬ (s.n : Int) < 32 := by omega
            go_wp2
            go_meet
            exact ⟨by rw [← HBo.out.1, decide_eq_false (fun h => h.2.elim (fun h => by rw [HBo.out.2] at h; cases h) hl)], rfl⟩
        · go_wp2
          go_meet
          exact ⟨by rw [← HBo.out.1, decide_eq_true ⟨he, .inl HBo.out.2⟩], rfl⟩
      · go_wp2
        go_meet
        exact ⟨by rw [← HBo.out.1, decide_eq_false (fun h => he h.1)], rfl⟩
    case rest =>
      obtain ⟨rfl, rfl⟩ := hcut
      have HX := Lib.hid (show Upd (fun _ => False) w w' ∧ p7 ≠ p8 ∧ w.heap.size ≤ p7 ∧ w.heap.size ≤ p8 from HS.out)
      clear hand hln e8 HS
      go_upto_if 61 with fail
      go_cut [] (fun wx => Hid (∃ kv', MapB Try.prog 53 encC wx mb kv' ∧ KnAt (learnS s port fr f0) kv' ∧ Upd (· = mb) w' wx))
      case first =>
        cases B with
        | false =>
          have hno := of_decide_eq_false HBo.out.1
          have H9 := Lib.hid (And.intro HB.out.2.2 (HW.out.2.2.keep port fr f0 hno))
          clear hno
          go_wp2
          go_meet
          exact ⟨_, H9.out.1, H9.out.2, (Upd.refl _ _).drew⟩
        | true =>
          have hyes := of_decide_eq_true HBo.out.1
          have H9 := Lib.hid (HW.out.2.2.learn port fr f0 hyes)
          clear hyes
          go_wp2_with fail
          refine wpE_region (S := fun (W' : World) => W' = w'.drew.drew) (s := 6) (by kernel_rfl) ?_
          have hS : (fun (W' : World) => W' = w'.drew.drew) _ := rfl
          refine wpE_take (i := 0) (oi := { dst := some 62, op := Go.Op.move (Go.Operand.tmp 0), type := 24, pos := "switch.go:32", after := #[], guard := none }) (v := ?_) rfl (by kernel_rfl) (fun _ _ _ h => h) (Or.inl ⟨by rfl, fun W hW => ?_⟩) hS ?_
          rotate_left
          · (obtain rfl : W = w'.drew.drew := hW); go_simp; (try go_bits); (try rw [if_pos (by omega)]); (try with_reducible rfl)
          (try simp only [Act.put, List.setIfInBounds_toArray, List.set_cons_succ, List.set_cons_zero])
          refine wpE_take (i := 1) (oi := { dst := some 63, op := Go.Op.nilCheck (Go.Operand.tmp 62), type := 0, pos := "switch.go:32", after := #[{ on := 0, ground := Go.Ground.data }], guard := none }) (v := ?_) rfl (by kernel_rfl) (fun _ _ _ h => h) (Or.inl ⟨by rfl, fun W hW => ?_⟩) hS ?_
          rotate_left
          · (obtain rfl : W = w'.drew.drew := hW); go_simp; (try go_bits); (try rw [if_pos (by omega)]); (try with_reducible rfl)
          (try simp only [Act.put, List.setIfInBounds_toArray, List.set_cons_succ, List.set_cons_zero])
          refine wpE_take (i := 2) (oi := { dst := some 64, op := Go.Op.fieldAddr 45 (Go.Operand.tmp 63) 1, type := 0, pos := "switch.go:32", after := #[{ on := 1, ground := Go.Ground.data }], guard := none }) (v := ?_) rfl (by kernel_rfl) (fun _ _ _ h => h) (Or.inl ⟨by rfl, fun W hW => ?_⟩) hS ?_
          rotate_left
          · (obtain rfl : W = w'.drew.drew := hW); go_simp; (try go_bits); (try rw [if_pos (by omega)]); (try with_reducible rfl)
          (try simp only [Act.put, List.setIfInBounds_toArray, List.set_cons_succ, List.set_cons_zero])
          refine wpE_take (i := 3) (oi := { dst := some 65, op := Go.Op.load 43 (Go.Operand.tmp 64), type := 43, pos := "switch.go:32", after := #[{ on := 2, ground := Go.Ground.data }], guard := none }) (v := ?_) rfl (by kernel_rfl) (fun _ _ _ h => h) (Or.inl ⟨by rfl, fun W hW => ?_⟩) hS ?_
          rotate_left
          · (obtain rfl : W = w'.drew.drew := hW); go_simp; (try go_bits); (try rw [if_pos (by omega)]); (try with_reducible rfl)
          (try simp only [Act.put, List.setIfInBounds_toArray, List.set_cons_succ, List.set_cons_zero])
          refine wpE_take (i := 4) (oi := { dst := some 66, op := Go.Op.load 53 (Go.Operand.tmp 8), type := 53, pos := "switch.go:32", after := #[], guard := none }) (v := encC fr) rfl (by kernel_rfl) (fun _ _ _ h => h) (Or.inl ⟨by rfl, fun W hW => ?_⟩) hS ?_
          · (obtain rfl : W = w'.drew.drew := hW); exact wp_loadC (.tmp 8) rfl p8 fr HL.out.1.2 rfl HB.out.1.2
          (try simp only [Act.put, List.setIfInBounds_toArray, List.set_cons_succ, List.set_cons_zero])
          refine wpE_take (i := 5) (oi := { dst := some 67, op := Go.Op.move (Go.Operand.tmp 1), type := 3, pos := "switch.go:32", after := #[], guard := none }) (v := ?_) rfl (by kernel_rfl) (fun _ _ _ h => h) (Or.inl ⟨by rfl, fun W hW => ?_⟩) hS ?_
          rotate_left
          · (obtain rfl : W = w'.drew.drew := hW); go_simp; (try go_bits); (try rw [if_pos (by omega)]); (try with_reducible rfl)
          (try simp only [Act.put, List.setIfInBounds_toArray, List.set_cons_succ, List.set_cons_zero])
          refine wpE_last (oi := { dst := none, op := Go.Op.mapUpdate 43 (Go.Operand.tmp 65) (Go.Operand.tmp 66) (Go.Operand.tmp 67), type := 0, pos := "switch.go:32", after := #[{ on := 3, ground := Go.Ground.data }, { on := 4, ground := Go.Ground.data }, { on := 5, ground := Go.Ground.data }, { on := 0, ground := Go.Ground.phase }, { on := 1, ground := Go.Ground.phase }, { on := 2, ground := Go.Ground.phase }, { on := 3, ground := Go.Ground.phase }, { on := 4, ground := Go.Ground.phase }, { on := 5, ground := Go.Ground.phase }], guard := none }) rfl (by kernel_rfl) (by kernel_rfl) (by rfl) (fun K hK => ?_)
          refine wp_storeB (.tmp 65) (.tmp 66) (.tmp 67) rfl (show MapB Try.prog 53 encC w'.drew.drew mb kv from HB.out.2.2) keyC encC_inj Try.underlying43 rfl (q := fr) rfl HL.out.2.2 (.int .i64 (port : Int)) rfl (fun w5 hM5 hU5 => ?_); refine hK _ _ ?_; clear hK K
          have H10 := Lib.hid (And.intro hM5 (show Upd (· = mb) w' w5 from ((Upd.refl _ _).drewN 2).trans hU5))
          clear hM5 hU5
          go_wp2
          go_meet
          exact ⟨_, H10.out.1, H9.out, H10.out.2⟩
      case rest =>
        obtain ⟨kv', hM5, hK5, hU5⟩ := hcut.out
        have hpm : p ≠ mb := fun e => by
          have h1 := HB.out.2.1
          obtain ⟨_, _, h2, _⟩ := HB.out.2.2
          rw [← e] at h2
          rw [h1] at h2
          cases h2
        have h78 : p7 ≠ mb := fun e => by
          have h1 := HB.out.1.1
          obtain ⟨_, _, h2, _⟩ := HB.out.2.2
          rw [← e] at h2
          rw [h1] at h2
          cases h2
        have hb5 := HB.out.2.1.upd hU5 hpm
        have b7 := HB.out.1.1.upd hU5 h78
        clear c0 c1
        have c0 : wc.cell? ⟨p, 0, none⟩ = some (.int .i64 (ports : Int)) := hb5.cell 0
        have c1 : wc.cell? ⟨p, 1, none⟩ = some (.map (some mb)) := hb5.cell 1
        obtain ⟨at_, hat⟩ : ∃ a, (learnS s port fr f0).kn tk = a := ⟨_, rfl⟩
        obtain ⟨z, hz⟩ : ∃ z : Int, (at_.map (fun (p : Nat) => (p : Int))).getD 0 = z := ⟨_, rfl⟩
        obtain ⟨b2, hb2⟩ : ∃ b, at_.isSome = b := ⟨_, rfl⟩
        have hv2 : (kvGet kv' tk).getD (.int .i64 0) = .int .i64 z := by rw [hK5.get, hat, ← hz]; cases at_ <;> rfl
        have hv3 : (kvGet kv' tk).isSome = b2 := by rw [hK5.get, hat, ← hb2]; cases at_ <;> rfl
        have hrel : ∀ k : Nat, (at_.isNone || decide (at_ = some k)) = (!b2 || decide ((k : Int) = z)) := fun k => by
          rw [← hz, ← hb2]
          cases at_ with
          | none => rfl
          | some q => simp; omega
        have hzb : 0 ≤ z ∧ z < 1000 := by
          rw [← hz]
          cases hq : at_ with
          | none => simp
          | some q =>
            rw [hq] at hat
            unfold learnS at hat
            have hall := HF.out.2.2.1
            have : q < 1000 := by
              split at hat
              · simp only [] at hat
                split at hat
                · cases hat; omega
                · exact hall _ _ hat
              · exact hall _ _ hat
            simp; omega
        have hS5 : Step (· = c) own w (ext own w d) wc := by
          refine ⟨(HX.out.1.mono (S' := fun b => own b = c) (fun _ _ h => h.elim)).trans' hU5 (fun i hi e => ?_), fun b hb => ext_old _ _ _ hb⟩
          subst e; exact HW.out.1.2.2
        have hlp : p < w.heap.size := HW.out.1.1.lt
        have hlm : mb < w.heap.size := HW.out.2.1.lt
        have hsw : SwAt (ext own w d) c wc p ports (learnS s port fr f0) := ⟨mb, kv', hb5, (ext_old _ _ _ hlp).trans HW.out.1.2.1, (ext_old _ _ _ hlm).trans HW.out.1.2.2, hM5, hK5⟩
        have HA := Lib.hid hat
        have H5 := Lib.hid (And.intro hS5 (And.intro hsw (And.intro hM5 b7)))
        have HV2 := Lib.hid (And.intro hv2 hv3)
        have HRe := Lib.hid (And.intro hrel hzb)
        clear hkn hcut hM5 hK5 hU5 hpm h78 hb5 b7 hat hz hb2 hv2 hv3 hrel hzb hS5 hlp hlm hsw HX HBo HB HV HW HR
        go_wp2_with fail
        refine wpE_region (S := fun (W' : World) => W' = wc.drew) (s := 10) (by kernel_rfl) ?_
        have hS : (fun (W' : World) => W' = wc.drew) _ := rfl
        refine wpE_take (i := 0) (oi := { dst := some 69, op := Go.Op.move (Go.Operand.tmp 0), type := 24, pos := "switch.go:34", after := #[], guard := none }) (v := ?_) rfl (by kernel_rfl) (fun _ _ _ h => h) (Or.inl ⟨by rfl, fun W hW => ?_⟩) hS ?_
        rotate_left
        · (obtain rfl : W = wc.drew := hW); go_simp; (try go_bits); (try rw [if_pos (by omega)]); (try with_reducible rfl)
        (try simp only [Act.put, List.setIfInBounds_toArray, List.set_cons_succ, List.set_cons_zero])
        refine wpE_take (i := 1) (oi := { dst := some 70, op := Go.Op.nilCheck (Go.Operand.tmp 69), type := 0, pos := "switch.go:34", after := #[{ on := 0, ground := Go.Ground.data }], guard := none }) (v := ?_) rfl (by kernel_rfl) (fun _ _ _ h => h) (Or.inl ⟨by rfl, fun W hW => ?_⟩) hS ?_
        rotate_left
        · (obtain rfl : W = wc.drew := hW); go_simp; (try go_bits); (try rw [if_pos (by omega)]); (try with_reducible rfl)
        (try simp only [Act.put, List.setIfInBounds_toArray, List.set_cons_succ, List.set_cons_zero])
        refine wpE_take (i := 2) (oi := { dst := some 71, op := Go.Op.fieldAddr 45 (Go.Operand.tmp 70) 1, type := 0, pos := "switch.go:34", after := #[{ on := 1, ground := Go.Ground.data }], guard := none }) (v := ?_) rfl (by kernel_rfl) (fun _ _ _ h => h) (Or.inl ⟨by rfl, fun W hW => ?_⟩) hS ?_
        rotate_left
        · (obtain rfl : W = wc.drew := hW); go_simp; (try go_bits); (try rw [if_pos (by omega)]); (try with_reducible rfl)
        (try simp only [Act.put, List.setIfInBounds_toArray, List.set_cons_succ, List.set_cons_zero])
        refine wpE_take (i := 3) (oi := { dst := some 72, op := Go.Op.load 43 (Go.Operand.tmp 71), type := 43, pos := "switch.go:34", after := #[{ on := 2, ground := Go.Ground.data }], guard := none }) (v := ?_) rfl (by kernel_rfl) (fun _ _ _ h => h) (Or.inl ⟨by rfl, fun W hW => ?_⟩) hS ?_
        rotate_left
        · (obtain rfl : W = wc.drew := hW); go_simp; (try go_bits); (try rw [if_pos (by omega)]); (try with_reducible rfl)
        (try simp only [Act.put, List.setIfInBounds_toArray, List.set_cons_succ, List.set_cons_zero])
        refine wpE_take (i := 4) (oi := { dst := some 73, op := Go.Op.load 53 (Go.Operand.tmp 7), type := 53, pos := "switch.go:34", after := #[], guard := none }) (v := encC tk) rfl (by kernel_rfl) (fun _ _ _ h => h) (Or.inl ⟨by rfl, fun W hW => ?_⟩) hS ?_
        · (obtain rfl : W = wc.drew := hW); exact wp_loadC (.tmp 7) rfl p7 tk HL.out.1.1 rfl H5.out.2.2.2
        (try simp only [Act.put, List.setIfInBounds_toArray, List.set_cons_succ, List.set_cons_zero])
        refine wpE_take (i := 5) (oi := { dst := some 74, op := Go.Op.lookup 43 (Go.Operand.tmp 72) (Go.Operand.tmp 73) true, type := 54, pos := "switch.go:34", after := #[{ on := 3, ground := Go.Ground.data }, { on := 4, ground := Go.Ground.data }], guard := none }) (v := .tuple #[.int .i64 z, .bool b2]) rfl (by kernel_rfl) (fun _ _ _ h => h) (Or.inl ⟨by rfl, fun W hW => ?_⟩) hS ?_
        · (obtain rfl : W = wc.drew := hW); exact exec_lookB (.tmp 72) (.tmp 73) rfl (show MapB Try.prog 53 encC wc.drew mb kv' from H5.out.2.2.1) keyC encC_inj Try.underlying43 (zeroI _) rfl (q := tk) rfl HL.out.2.1 _ _ HV2.out.1 HV2.out.2
        (try simp only [Act.put, List.setIfInBounds_toArray, List.set_cons_succ, List.set_cons_zero])
        refine wpE_take (i := 6) (oi := { dst := some 68, op := Go.Op.move (Go.Operand.tmp 74), type := 54, pos := "switch.go:34", after := #[{ on := 5, ground := Go.Ground.data }], guard := none }) (v := ?_) rfl (by kernel_rfl) (fun _ _ _ h => h) (Or.inl ⟨by rfl, fun W hW => ?_⟩) hS ?_
        rotate_left
        · (obtain rfl : W = wc.drew := hW); go_simp; (try go_bits); (try rw [if_pos (by omega)]); (try with_reducible rfl)
        (try simp only [Act.put, List.setIfInBounds_toArray, List.set_cons_succ, List.set_cons_zero])
        refine wpE_take (i := 7) (oi := { dst := some 75, op := Go.Op.extract (Go.Operand.tmp 68) 0, type := 3, pos := "switch.go:34", after := #[{ on := 6, ground := Go.Ground.data }], guard := none }) (v := ?_) rfl (by kernel_rfl) (fun _ _ _ h => h) (Or.inl ⟨by rfl, fun W hW => ?_⟩) hS ?_
        rotate_left
        · (obtain rfl : W = wc.drew := hW); go_simp; (try go_bits); (try rw [if_pos (by omega)]); (try with_reducible rfl)
        (try simp only [Act.put, List.setIfInBounds_toArray, List.set_cons_succ, List.set_cons_zero])
        refine wpE_take (i := 8) (oi := { dst := some 76, op := Go.Op.extract (Go.Operand.tmp 68) 1, type := 4, pos := "switch.go:34", after := #[{ on := 6, ground := Go.Ground.data }, { on := 9, ground := Go.Ground.gcOnly Go.Departure.lateStores }], guard := none }) (v := ?_) rfl (by kernel_rfl) (fun _ _ _ h => h) (Or.inl ⟨by rfl, fun W hW => ?_⟩) hS ?_
        rotate_left
        · (obtain rfl : W = wc.drew := hW); go_simp; (try go_bits); (try rw [if_pos (by omega)]); (try with_reducible rfl)
        (try simp only [Act.put, List.setIfInBounds_toArray, List.set_cons_succ, List.set_cons_zero])
        refine wpE_only (i := 9) (oi := { dst := some 11, op := Go.Op.assign (Go.Operand.tmp 75), type := 3, pos := "switch.go:34", after := #[{ on := 7, ground := Go.Ground.data }, { on := 0, ground := Go.Ground.phase }, { on := 1, ground := Go.Ground.phase }, { on := 2, ground := Go.Ground.phase }, { on := 3, ground := Go.Ground.phase }, { on := 4, ground := Go.Ground.phase }, { on := 5, ground := Go.Ground.phase }, { on := 6, ground := Go.Ground.phase }, { on := 7, ground := Go.Ground.phase }, { on := 8, ground := Go.Ground.textOnly Go.Departure.lateStores }], guard := none }) rfl (by kernel_rfl) (by rfl) (fun K hK => ?_)
        go_simp; (try go_bits); refine hK _ _ hS ?_; clear hK K
        (try simp only [Act.put, List.setIfInBounds_toArray, List.set_cons_succ, List.set_cons_zero])
        refine wpE_last (oi := { dst := some 12, op := Go.Op.assign (Go.Operand.tmp 76), type := 4, pos := "switch.go:34", after := #[{ on := 8, ground := Go.Ground.data }, { on := 9, ground := Go.Ground.chain }, { on := 0, ground := Go.Ground.phase }, { on := 1, ground := Go.Ground.phase }, { on := 2, ground := Go.Ground.phase }, { on := 3, ground := Go.Ground.phase }, { on := 4, ground := Go.Ground.phase }, { on := 5, ground := Go.Ground.phase }, { on := 6, ground := Go.Ground.phase }, { on := 7, ground := Go.Ground.phase }, { on := 8, ground := Go.Ground.phase }, { on := 9, ground := Go.Ground.phase }], guard := none }) rfl (by kernel_rfl) (by kernel_rfl) (by rfl) (fun K hK => ?_)
        go_simp; (try go_bits); refine hK _ _ ?_; clear hK K
        have hd5 : Step (· = c) own w (ext own w d) wc.drew := H5.out.1.drew
        have hd6 : SwAt (ext own w d) c wc.drew p ports (learnS s port fr f0) := H5.out.2.1
        have H6 := Lib.hid (And.intro hd5 hd6)
        clear hd5 hd6 H5 HV2 HL
        have HP := Lib.hid int_parts
        go_wp2_with fail
        go_loopw [13, 81] (fun l i wr => ∃ (k : Nat), k ≤ ports ∧ i = .int .i64 (k : Int) ∧ Hid (∃ own', Step (· = 0) (up1 (ext own w d) wc.drew) wc.drew own' wr ∧ Rw 3 1 own' 0 wr l (outS k port at_).length (psC (outS k port at_)))) (fun _ i _ => ports - (intOf i).toNat)
        case atStart => exact ⟨0, by omega, rfl, _, Step.refl _ _ _, Rw.nil _ _ _ _ _⟩
        case round =>
          obtain ⟨k, hk, rfl, HLo⟩ := hrel
          obtain ⟨own2, hS2, hO2⟩ := HLo.out
          by_cases hlt : k < ports
          · have hsn := outS_snoc k port at_
            rw [HRe.out.1 k] at hsn
            have hlen := outS_len k port at_
            obtain ⟨i, zz, hi, hzz, hs, hby, hzs⟩ := HP.out
            have HI := Lib.hid (And.intro hi (And.intro hzz (And.intro hs (And.intro hby hzs))))
            have H2 := Lib.hid (And.intro hS2 hO2)
            obtain ⟨A5, cap5, rfl, _⟩ := hO2.form
            have hq1 : ((k : Int) < (ports : Int)) := by omega
            have HQ := Lib.hid (IntWalk.wrap64_in ((k : Int) + 1) (by omega))
            have HLn := Lib.hid (show (outS k port at_).length ≤ 8 by omega)
            have HK := Lib.hid (And.intro hk (And.intro hlt hp))
            clear hS2 hO2 hi hzz hs hby hzs HLo hlen hcm hcap hn h6 h12 hc6 h1 h2 h3 hp hgl HF H6 HA HP hS c0 c1
            by_cases hkp : k = port
            · have HD := Lib.hid (show outS (k + 1) port at_ = outS k port at_ by rw [hsn, if_neg (by simp [hkp]), List.append_nil])
              have hkq : ((k : Int) != (port : Int)) = false := by simp; omega
              clear hsn hkp HRe
              go_wp2
              exact ⟨⟨k + 1, by omega, by rw [HQ.out]; go_num, _, H2.out.1, by rw [HD.out]; exact H2.out.2⟩, meas_lt ports k HK.out.2.1 HK.out.2.2⟩
            · have hkq : ((k : Int) != (port : Int)) = true := by simp; omega
              by_cases hb : b2 = true ∧ (k : Int) ≠ z
              · have HD := Lib.hid (show outS (k + 1) port at_ = outS k port at_ by rw [hsn, if_neg (by simp [hb.1, hb.2]), List.append_nil])
                obtain ⟨rfl, hkz⟩ := hb
                have hkz : ((k : Int) == z) = false := by simp; exact hkz
                clear hsn hkp HRe
                go_wp2
                exact ⟨⟨k + 1, by omega, by rw [HQ.out]; go_num, _, H2.out.1, by rw [HD.out]; exact H2.out.2⟩, meas_lt ports k HK.out.2.1 HK.out.2.2⟩
              · have HD := Lib.hid (show outS (k + 1) port at_ = outS k port at_ ++ [k] by
                  rw [hsn, if_pos (by cases b2 <;> simp_all)])
                clear hsn hkp HRe
                have hkz : b2 = false ∨ (b2 = true ∧ ((k : Int) == z) = true) := by
                  cases b2 with
                  | false => exact .inl rfl
                  | true => exact .inr ⟨rfl, by simp at hb; simp [hb]⟩
                clear hb
                rcases hkz with rfl | ⟨rfl, hkz⟩
                all_goals
                  go_wp2_with ((with_reducible show wpList _ _ _ ((⟨some 99, _, _, _, _, _⟩ : Oper) :: _) _ _); refine wpList_append_rw rfl (.tmp 96) (.tmp 98) _ rfl 3 i _ 1 8 Try.underlying22 HI.out.1 HI.out.2.1 HI.out.2.2.1 HI.out.2.2.2.1 HI.out.2.2.2.2 (by omega) (own := own2) (d := 0) (.slice A5 (outS k port at_).length cap5) _ _ rfl (H2.out.2.step (step_allocS own2 wr _) (fun h => h)) (wr.heap.size + 1) (some ⟨wr.heap.size, 0, none⟩) 1 1 [.int .i64 (k : Int)] rfl ⟨rfl, fun _ => ⟨_, rfl, Nat.lt_succ_self _, cells_new1 _ _ _⟩⟩ (by simp [Value.oneCell']) (by unfold maxLen; have := HLn.out; omega) (by have := HLn.out; omega) ?_)
                  intro v2 w5 hst5 hrow5
                  have hst6 := H2.out.1.trans (((step_allocS own2 wr _).mono (C' := (· = 0)) (fun _ h => h.elim)).trans hst5)
                  rw [show psC (outS k port at_) ++ [.int .i64 (k : Int)] = psC (outS (k + 1) port at_) by rw [HD.out, psC, psC, List.map_append]; rfl, show (outS k port at_).length + 1 = (outS (k + 1) port at_).length by rw [HD.out, List.length_append]; rfl] at hrow5
                  have H6 := Lib.hid (And.intro hst6 hrow5)
                  clear hst5 hst6 hrow5 H2
                  go_wp2
                  exact ⟨⟨k + 1, by omega, by rw [HQ.out]; go_num, _, H6.out⟩, meas_lt ports k HK.out.2.1 HK.out.2.2⟩
          · obtain rfl : k = ports := by omega
            have hUw := up1_upd hS2
            have hSt : Step (fun _ => False) (ext own w d) wc.drew (ext (ext own w d) wc.drew d) wr := ⟨hUw, fun b hb => ext_old _ _ _ hb⟩
            have hR := up1_row hS2 hO2 d
            have hSw := H6.out.2.step hSt (fun h => h)
            have hStp := H6.out.1.trans (hSt.mono (C' := (· = c)) (fun _ h => h.elim))
            rw [← HA.out] at hR
            obtain ⟨A5, cap5, rfl, _⟩ := hO2.form
            have HE := Lib.hid (And.intro hStp (And.intro hSw hR))
            have hq1 : ¬ ((k : Int) < (k : Int)) := by omega
            clear hS2 hO2 hUw hSt hR hSw hStp HLo HF H6 HA HP c0 c1 hS
            go_wp2
            go_ret
            exact ⟨_, rfl, _, HE.out⟩
end Go.Proofs.Ytpknabblllighaa
