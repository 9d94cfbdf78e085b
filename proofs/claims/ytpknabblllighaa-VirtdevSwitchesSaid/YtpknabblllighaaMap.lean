import Derived.Test.YtpknabblllighaaBase
import Derived.Maps.Keyed
/- Maps: a block that is a map, its entries in order. -/
namespace Go.Proofs.Ytpknabblllighaa
set_option linter.unusedVariables false
set_option linter.unusedSimpArgs false
open Go.RowKit Go.Maps Go.ChangeMaps
section
variable {α : Type}
/-- block b is the map of these entries -/
def MapB (P : Program) (k : TypeId) (enc : α → Value) (w : World) (b : Nat) (kv : List (α × Value)) : Prop :=
  ∃ es clock, w.heap[b]? = some (.map es clock) ∧ es.toList.map (fun x => (x.key, x.val)) = kv.map (fun p => (enc p.1, p.2)) ∧ (∀ p ∈ kv, ∃ l, keyOf P k (enc p.1) = some l) ∧ (kv.map Prod.fst).Nodup
variable {P : Program} {k t e : TypeId} {enc : α → Value} {w w' : World} {b : Nat} {kv : List (α × Value)}
theorem MapB.made (w : World) (P : Program) (k : TypeId) (enc : α → Value) : MapB P k enc (w.alloc (.map #[] 0)) w.heap.size [] :=
  ⟨#[], 0, (MapKept.heap_alloc w _).1, rfl, fun p hp => (by cases hp), List.nodup_nil⟩
theorem MapB.lt (h : MapB P k enc w b kv) : b < w.heap.size := by
  obtain ⟨es, clock, hb, _⟩ := h
  exact (Array.getElem?_eq_some_iff.1 hb).1
theorem MapB.upd {S : Nat → Prop} (h : MapB P k enc w b kv) (hU : Upd S w w') (hS : ¬ S b) : MapB P k enc w' b kv := by
  have hl := h.lt
  obtain ⟨es, clock, hb, r⟩ := h
  exact ⟨es, clock, (hU.block b hl hS).trans hb, r⟩
theorem MapB.step {C : Nat → Prop} {own own' : Nat → Nat} {d : Nat} (h : MapB P k enc w b kv) (ho : own b = d) (hS : Step C own w own' w') (hd : ¬ C d) : MapB P k enc w' b kv ∧ own' b = d :=
  ⟨h.upd hS.upd (by rw [ho]; exact hd), (hS.old b h.lt).trans ho⟩
theorem MapB.find (h : MapB P k enc w b kv) (K : Keyed P k) (hinj : ∀ x y, enc x = enc y → x = y) {a : α} {kl : Lit} (hkey : keyOf P k (enc a) = some kl) :
    ∃ es clock, w.heap[b]? = some (.map es clock) ∧ es.toList.map (fun x => (x.key, x.val)) = kv.map (fun p => (enc p.1, p.2)) ∧
    (((Instr.findKey k (enc a) es.toList).run P w = .ok none w ∧ ∀ p ∈ kv, p.1 ≠ a) ∨ ∃ j e0, (Instr.findKey k (enc a) es.toList).run P w = .ok (some (j, e0.val)) w ∧ es.toList[j]? = some e0 ∧ e0.key = enc a ∧ kv[j]? = some (a, e0.val)) := by
  obtain ⟨es, clock, hb, hes, hk, hn⟩ := h
  refine ⟨es, clock, hb, hes, ?_⟩
  have hks : ∀ x ∈ es.toList, ∃ l, keyOf P k x.key = some l := fun x hx => by
    have hm : (x.key, x.val) ∈ kv.map (fun p => (enc p.1, p.2)) := by rw [← hes]; exact List.mem_map.2 ⟨x, hx, rfl⟩
    obtain ⟨p, hp, e⟩ := List.mem_map.1 hm
    obtain ⟨l, hl⟩ := hk p hp
    refine ⟨l, ?_⟩
    have e1 : enc p.1 = x.key := congrArg Prod.fst e
    rw [← e1]; exact hl
  rcases K.find w hkey es.toList hks with ⟨h1, h2⟩ | ⟨j, e0, h1, h2, h3⟩
  · refine .inl ⟨h1, fun p hp e => ?_⟩
    have hm : (enc p.1, p.2) ∈ es.toList.map (fun x => (x.key, x.val)) := by rw [hes]; exact List.mem_map.2 ⟨p, hp, rfl⟩
    obtain ⟨x, hx, ex⟩ := List.mem_map.1 hm
    have e1 : x.key = enc p.1 := congrArg Prod.fst ex
    exact h2 x hx (by rw [e1, e])
  · refine .inr ⟨j, e0, h1, h2, h3, ?_⟩
    have hj : (kv.map (fun p => (enc p.1, p.2)))[j]? = some (e0.key, e0.val) := by rw [← hes, List.getElem?_map, h2]; rfl
    rw [List.getElem?_map] at hj
    obtain ⟨p, hp, ep⟩ := Option.map_eq_some_iff.1 hj
    have e1 : enc p.1 = enc a := (congrArg Prod.fst ep).trans h3
    have e2 : p.2 = e0.val := congrArg Prod.snd ep
    rw [hp]
    obtain ⟨p1, p2⟩ := p
    simp only [] at e1 e2
    rw [hinj _ _ e1, e2]
theorem MapB.len (h : MapB P k enc w b kv) (ht : P.underlying t = some (.map k e)) (ty : TypeId) : (Builtin.len_ #[t] ty #[.map (some b)]).run P w = .ok (.int .i64 kv.length) w := by
  obtain ⟨es, clock, hb, hes, _⟩ := h
  have e1 : kv.length = es.size := by
    have := congrArg List.length hes
    simpa using this.symm
  rw [e1]
  simp [Builtin.len_, run_underlying ht, MapKept.run_getObj_map hb, goInt, Result.andThen]
theorem wpList_lenB {ops : Array Oper} {rest : List Oper} {o : Oper} {act : Act} {Q : Exit → Act → World → Prop} (hg : o.guard = none) (m : Operand) (t : TypeId) (hop : o.op = Op.call { callee := Callee.builtin Builtin.len, args := #[m], argTypes := #[t] })
    (h : MapB P k enc w b kv) (ht : P.underlying t = some (.map k e)) (hm : act.eval m = .map (some b)) (hK : wpList P ops Q rest (act.put o.dst (.int .i64 kv.length)) w) : wpList P ops Q (o :: rest) act w := by
  refine wpList_plain hg fun K' hK' => ?_
  unfold Oper.wp
  simp [execOp, hop, resolve, invoke, builtin, hm, h.len ht o.type, Result.andThen]
  exact hK' _ _ hK
end
section
variable {α : Type} [DecidableEq α]
def kvGet : List (α × Value) → α → Option Value
  | [], _ => none
  | p :: r, a => if p.1 = a then some p.2 else kvGet r a
def kvPut : List (α × Value) → α → Value → List (α × Value)
  | [], a, v => [(a, v)]
  | p :: r, a, v => if p.1 = a then (a, v) :: r else p :: kvPut r a v
theorem kvGet_none {kv : List (α × Value)} {a : α} (h : ∀ p ∈ kv, p.1 ≠ a) : kvGet kv a = none := by
  induction kv with
  | nil => rfl
  | cons p r ih => rw [kvGet, if_neg (h p (List.mem_cons_self ..))]; exact ih (fun q hq => h q (List.mem_cons_of_mem _ hq))
theorem kvPut_none {kv : List (α × Value)} {a : α} (h : ∀ p ∈ kv, p.1 ≠ a) (v : Value) : kvPut kv a v = kv ++ [(a, v)] := by
  induction kv with
  | nil => rfl
  | cons p r ih => rw [kvPut, if_neg (h p (List.mem_cons_self ..)), ih (fun q hq => h q (List.mem_cons_of_mem _ hq))]; rfl
theorem kvGet_at {kv : List (α × Value)} (hn : (kv.map Prod.fst).Nodup) : ∀ {j : Nat} {a : α} {v : Value}, kv[j]? = some (a, v) → kvGet kv a = some v := by
  induction kv with
  | nil => intro j a v h; simp at h
  | cons p r ih =>
    intro j a v h
    rw [List.map_cons, List.nodup_cons] at hn
    cases j with
    | zero => rw [List.getElem?_cons_zero] at h; cases h; rw [kvGet, if_pos rfl]
    | succ j =>
      rw [List.getElem?_cons_succ] at h
      have hm : a ∈ r.map Prod.fst := List.mem_map.2 ⟨_, List.mem_of_getElem? h, rfl⟩
      rw [kvGet, if_neg (fun e => hn.1 (by rw [e]; exact hm))]
      exact ih hn.2 h
theorem kvPut_at {kv : List (α × Value)} (hn : (kv.map Prod.fst).Nodup) : ∀ {j : Nat} {a : α} {v0 : Value}, kv[j]? = some (a, v0) → ∀ v, kvPut kv a v = kv.set j (a, v) := by
  induction kv with
  | nil => intro j a v h; simp at h
  | cons p r ih =>
    intro j a v0 h v
    rw [List.map_cons, List.nodup_cons] at hn
    cases j with
    | zero => rw [List.getElem?_cons_zero] at h; cases h; rw [kvPut, if_pos rfl]; rfl
    | succ j =>
      rw [List.getElem?_cons_succ] at h
      have hm : a ∈ r.map Prod.fst := List.mem_map.2 ⟨_, List.mem_of_getElem? h, rfl⟩
      rw [kvPut, if_neg (fun e => hn.1 (by rw [e]; exact hm)), ih hn.2 h v]
      rfl
theorem kvPut_keys {kv : List (α × Value)} {a : α} {v : Value} {p : α × Value} (h : p ∈ kvPut kv a v) : p.1 = a ∨ p ∈ kv := by
  induction kv with
  | nil => rw [kvPut, List.mem_singleton] at h; exact .inl (by rw [h])
  | cons q r ih =>
    rw [kvPut] at h
    split at h
    · rcases List.mem_cons.1 h with rfl | h
      · exact .inl rfl
      · exact .inr (List.mem_cons_of_mem _ h)
    · rcases List.mem_cons.1 h with rfl | h
      · exact .inr (List.mem_cons_self ..)
      · rcases ih h with h | h
        · exact .inl h
        · exact .inr (List.mem_cons_of_mem _ h)
theorem kvPut_nodup {kv : List (α × Value)} {a : α} {v : Value} (hn : (kv.map Prod.fst).Nodup) : ((kvPut kv a v).map Prod.fst).Nodup := by
  induction kv with
  | nil => simp [kvPut]
  | cons q r ih =>
    rw [List.map_cons, List.nodup_cons] at hn
    rw [kvPut]
    split
    · rename_i he
      rw [List.map_cons, List.nodup_cons]
      exact ⟨by show a ∉ _; rw [← he]; exact hn.1, hn.2⟩
    · rename_i he
      rw [List.map_cons, List.nodup_cons]
      refine ⟨fun hm => ?_, ih hn.2⟩
      obtain ⟨p, hp, e⟩ := List.mem_map.1 hm
      rcases kvPut_keys hp with h | h
      · exact he (by rw [← e, h])
      · exact hn.1 (List.mem_map.2 ⟨p, h, e⟩)
theorem kvGet_put {kv : List (α × Value)} {a x : α} {v : Value} : kvGet (kvPut kv a v) x = if x = a then some v else kvGet kv x := by
  induction kv with
  | nil =>
    show (if a = x then some v else none) = if x = a then some v else none
    by_cases h : x = a
    · rw [if_pos h.symm, if_pos h]
    · rw [if_neg (fun e => h e.symm), if_neg h]
  | cons q r ih =>
    rw [kvPut]
    split
    · rename_i he
      rw [kvGet, kvGet]
      by_cases h : x = a
      · rw [if_pos h.symm, if_pos h]
      · rw [if_neg (fun e => h e.symm), if_neg h, if_neg (by rw [he]; exact fun e => h e.symm)]
    · rename_i he
      rw [kvGet, kvGet, ih]
      by_cases h : x = a
      · rw [if_neg (by rw [h]; exact he), if_pos h, if_pos h]
      · rw [if_neg h, if_neg h]
theorem kvPut_length {kv : List (α × Value)} {a : α} {v : Value} : (kvPut kv a v).length = if (kvGet kv a).isSome then kv.length else kv.length + 1 := by
  induction kv with
  | nil => rfl
  | cons q r ih =>
    rw [kvPut, kvGet]
    split
    · simp
    · rw [List.length_cons, ih]; split <;> simp_all
variable {P : Program} {k t e : TypeId} {enc : α → Value} {w w' : World} {b : Nat} {kv : List (α × Value)}
/-- 'm[k]', 'v, ok := m[k]' -/
theorem MapB.look (h : MapB P k enc w b kv) (K : Keyed P k) (hinj : ∀ x y, enc x = enc y → x = y) (ht : P.underlying t = some (.map k e)) {z : Value} (hz : (zeroValue e).run P w = .ok z w) {a : α} {kl : Lit} (hkey : keyOf P k (enc a) = some kl) (c : Bool) :
    (Instr.lookup t (.map (some b)) (enc a) c).run P w = .ok (if c then .tuple #[(kvGet kv a).getD z, .bool (kvGet kv a).isSome] else (kvGet kv a).getD z) w := by
  have hn : (kv.map Prod.fst).Nodup := by obtain ⟨_, _, _, _, _, hn⟩ := h; exact hn
  obtain ⟨es, clock, hb, hes, hf⟩ := h.find K hinj hkey
  rcases hf with ⟨h1, h2⟩ | ⟨j, e0, h1, h2, h3, h4⟩
  · rw [kvGet_none h2]
    simp [Instr.lookup, run_underlying ht, MapKept.run_getObj_map hb, K.check w _ hkey, h1, hz, Result.andThen]
  · rw [kvGet_at hn h4]
    simp [Instr.lookup, run_underlying ht, MapKept.run_getObj_map hb, K.check w _ hkey, h1, Result.andThen]
/-- 'm[k] = v' -/
theorem MapB.store (h : MapB P k enc w b kv) (K : Keyed P k) (hinj : ∀ x y, enc x = enc y → x = y) (ht : P.underlying t = some (.map k e)) {a : α} {kl : Lit} (hkey : keyOf P k (enc a) = some kl) (v : Value) :
    ∃ w', (Instr.mapUpdate t (.map (some b)) (enc a) v).run P w = .ok () w' ∧ MapB P k enc w' b (kvPut kv a v) ∧ Upd (· = b) w w' := by
  have h0 := h
  obtain ⟨_, _, _, _, hk, hn⟩ := h0
  obtain ⟨es, clock, hb, hes, hf⟩ := h.find K hinj hkey
  have hk' : ∀ p ∈ kvPut kv a v, ∃ l, keyOf P k (enc p.1) = some l := fun p hp => by
    rcases kvPut_keys hp with e1 | hp
    · rw [e1]; exact ⟨_, hkey⟩
    · exact hk p hp
  have hU : ∀ es' clock', Upd (· = b) w (setBlock w b (.map es' clock')) := fun es' clock' => ⟨rfl, rfl, rfl, by simp [setBlock], fun i _ hi => heap_setBlock_other hb _ hi⟩
  rcases hf with ⟨h1, h2⟩ | ⟨j, e0, h1, h2, h3, h4⟩
  · refine ⟨setBlock w b (.map (es.push ⟨enc a, v, clock⟩) (clock + 1)), ?_, ⟨_, _, heap_setBlock_same hb _, ?_, hk', kvPut_nodup hn⟩, hU _ _⟩
    · simp [Instr.mapUpdate, run_underlying ht, MapKept.run_getObj_map hb, K.check w false hkey, h1, MapKept.run_setObj_map _ hb, Result.andThen, setBlock]
    · rw [kvPut_none h2, List.map_append, ← hes]; simp
  · have hj : es[j]? = some e0 := by simpa using h2
    refine ⟨setBlock w b (.map (es.modify j (fun e' => { e' with key := enc a, val := v })) clock), ?_, ⟨_, _, heap_setBlock_same hb _, ?_, hk', kvPut_nodup hn⟩, hU _ _⟩
    · simp [Instr.mapUpdate, run_underlying ht, MapKept.run_getObj_map hb, K.check w false hkey, h1, hj, h3, K.stays w hkey, MapKept.run_setObj_map _ hb, Result.andThen, setBlock]
    · rw [Array.toList_modify, modify_eq_set _ _ _ _ h2, kvPut_at hn h4, List.map_set, List.map_set, ← hes]
theorem wpList_storeB {ops : Array Oper} {rest : List Oper} {o : Oper} {act : Act} {Q : Exit → Act → World → Prop} (hg : o.guard = none) (m x v : Operand) (t : TypeId) (hop : o.op = Op.mapUpdate t m x v)
    (h : MapB P k enc w b kv) (K : Keyed P k) (hinj : ∀ x y, enc x = enc y → x = y) (ht : P.underlying t = some (.map k e)) (hm : act.eval m = .map (some b)) {a : α} {kl : Lit} (hx : act.eval x = enc a) (hkey : keyOf P k (enc a) = some kl) (val : Value) (hv : act.eval v = val)
    (hK : ∀ w', MapB P k enc w' b (kvPut kv a val) → Upd (· = b) w w' → wpList P ops Q rest (act.put o.dst undef) w') : wpList P ops Q (o :: rest) act w := by
  refine wpList_plain hg fun K' hK' => ?_
  obtain ⟨w', hrun, r1, r2⟩ := h.store K hinj ht hkey val
  unfold Oper.wp
  simp [execOp, hop, hm, hx, hv, hrun, Result.andThen]
  exact hK' _ _ (hK w' r1 r2)
theorem wpList_lookB {ops : Array Oper} {rest : List Oper} {o : Oper} {act : Act} {Q : Exit → Act → World → Prop} (hg : o.guard = none) (m x : Operand) (t : TypeId) (c : Bool) (hop : o.op = Op.lookup t m x c)
    (h : MapB P k enc w b kv) (K : Keyed P k) (hinj : ∀ x y, enc x = enc y → x = y) (ht : P.underlying t = some (.map k e)) {z : Value} (hz : (zeroValue e).run P w = .ok z w) (hm : act.eval m = .map (some b)) {a : α} {kl : Lit} (hx : act.eval x = enc a) (hkey : keyOf P k (enc a) = some kl) (val : Value)
    (hval : (if c then .tuple #[(kvGet kv a).getD z, .bool (kvGet kv a).isSome] else (kvGet kv a).getD z) = val)
    (hK : wpList P ops Q rest (act.put o.dst val) w) : wpList P ops Q (o :: rest) act w := by
  refine wpList_plain hg fun K' hK' => ?_
  have hrun := h.look K hinj ht hz hkey c
  rw [hval] at hrun
  unfold Oper.wp
  simp [execOp, hop, hm, hx, hrun, Result.andThen]
  exact hK' _ _ hK
end
end Go.Proofs.Ytpknabblllighaa
