import Derived.Test.YtpknabblllighaaVw1
/- The document's switch, plain: what a frame teaches it, where it goes; a cell of a row that is written. -/
namespace Go.Proofs.Ytpknabblllighaa
set_option linter.unusedVariables false
set_option linter.unusedSimpArgs false
open Go.RowKit Go.Maps
set_option maxRecDepth 100000
def updM (port : Nat) (fr : List Int) (e : Mac) : Mac := if e.1 = fr then (e.1, port) else e
def upW (l : List Mac) (port : Nat) (fr : List Int) (i : Nat) : List Mac := (l.take i).map (updM port fr) ++ l.drop i
def anyW (l : List Mac) (fr : List Int) : Bool := l.any (fun e => decide (e.1 = fr))
def learnW (l : List Mac) (port : Nat) (fr : List Int) (f0 : Int) : List Mac :=
  if anyW l fr = true then l.map (updM port fr) else if f0 % 2 = 0 ∧ l.length < 32 then l ++ [(fr, port)] else l
def findW (l : List Mac) (k : List Int) : Option Nat := (l.find? (fun e => decide (e.1 = k))).map (·.2)
theorem updM_fst (port : Nat) (fr : List Int) (e : Mac) : (updM port fr e).1 = e.1 := by unfold updM; split <;> rfl
theorem upW_zero (l : List Mac) (port : Nat) (fr : List Int) : upW l port fr 0 = l := by simp [upW]
theorem upW_all (l : List Mac) (port : Nat) (fr : List Int) : upW l port fr l.length = l.map (updM port fr) := by simp [upW]
theorem upW_len (l : List Mac) (port : Nat) (fr : List Int) (i : Nat) : (upW l port fr i).length = l.length := by simp [upW]; omega
theorem upW_get (l : List Mac) (port : Nat) (fr : List Int) (i j : Nat) : (upW l port fr i)[j]? = if j < i then (l[j]?).map (updM port fr) else l[j]? := by
  unfold upW
  by_cases h : j < i
  · rw [if_pos h]
    by_cases h2 : j < l.length
    · rw [List.getElem?_append_left (by simp; omega), List.getElem?_map, List.getElem?_take, if_pos h]
    · rw [List.getElem?_eq_none (by simp; omega), List.getElem?_eq_none (by omega)]
      rfl
  · rw [if_neg h]
    by_cases h2 : i ≤ l.length
    · rw [List.getElem?_append_right (by simp; omega), List.getElem?_drop]
      congr 1
      simp; omega
    · rw [List.getElem?_eq_none (by simp; omega), List.getElem?_eq_none (by omega)]
theorem upW_six {l : List Mac} (h : ∀ e ∈ l, e.1.length = 6) (port : Nat) (fr : List Int) (i : Nat) : ∀ e ∈ upW l port fr i, e.1.length = 6 := by
  intro e he
  unfold upW at he
  rcases List.mem_append.1 he with he | he
  · obtain ⟨x, hx, rfl⟩ := List.mem_map.1 he
    rw [updM_fst]
    exact h x (List.mem_of_mem_take hx)
  · exact h e (List.mem_of_mem_drop he)
theorem upW_yes {l : List Mac} {port : Nat} {fr : List Int} {i : Nat} {e : Mac} (h : l[i]? = some e) (he : e.1 = fr) : upW l port fr (i + 1) = (upW l port fr i).set i (e.1, port) := by
  refine List.ext_getElem? (fun j => ?_)
  rw [upW_get, List.getElem?_set, upW_get]
  have hl := (List.getElem?_eq_some_iff.1 h).1
  by_cases hj : i = j
  · subst hj
    rw [if_pos (by omega), if_pos rfl, if_pos (by rw [upW_len]; exact hl), h]
    simp [updM, he]
  · rw [if_neg hj]
    by_cases h2 : j < i
    · rw [if_pos (by omega), if_pos h2]
    · rw [if_neg (by omega), if_neg h2]
theorem upW_no {l : List Mac} {port : Nat} {fr : List Int} {i : Nat} {e : Mac} (h : l[i]? = some e) (he : e.1 ≠ fr) : upW l port fr (i + 1) = upW l port fr i := by
  refine List.ext_getElem? (fun j => ?_)
  rw [upW_get, upW_get]
  by_cases hj : j = i
  · subst hj
    rw [if_pos (by omega), if_neg (by omega), h]
    simp [updM, he]
  · by_cases h2 : j < i
    · rw [if_pos (by omega), if_pos h2]
    · rw [if_neg (by omega), if_neg h2]
theorem anyW_succ {l : List Mac} {fr : List Int} {i : Nat} {e : Mac} (h : l[i]? = some e) : anyW (l.take (i + 1)) fr = (anyW (l.take i) fr || decide (e.1 = fr)) := by
  unfold anyW
  rw [List.take_add_one, h, List.any_append]
  simp
theorem map_none {l : List Mac} {port : Nat} {fr : List Int} (h : anyW l fr = false) : l.map (updM port fr) = l := by
  unfold anyW at h
  rw [List.any_eq_false] at h
  have : ∀ e ∈ l, updM port fr e = e := fun e he => by
    have := h e he
    unfold updM
    rw [if_neg (by simpa using this)]
  rw [List.map_congr_left this, List.map_id']
/-- what both know -/
structure WS (ports : Nat) (s : Sw) (l : List Mac) : Prop where
  get : ∀ k, s.kn k = findW l k
  len : s.n = l.length
  six : ∀ e ∈ l, e.1.length = 6
  even : ∀ e ∈ l, ∀ f, e.1.head? = some f → f % 2 = 0
  port : ∀ e ∈ l, e.2 < ports
  most : l.length ≤ 32
theorem WS.init (ports : Nat) : WS ports sw0 [] := ⟨fun _ => rfl, rfl, by simp, by simp, by simp, by simp⟩
theorem find_any (l : List Mac) (k : List Int) : (findW l k).isSome = anyW l k := by
  unfold findW anyW
  rw [Option.isSome_map, Bool.eq_iff_iff, List.find?_isSome, List.any_eq_true]
theorem find_map (l : List Mac) (port : Nat) (fr k : List Int) : findW (l.map (updM port fr)) k = if k = fr then (if anyW l fr = true then some port else none) else findW l k := by
  induction l with
  | nil => unfold findW anyW; simp
  | cons e l ih =>
    unfold findW at ih ⊢
    rw [List.map_cons, List.find?_cons, updM_fst]
    by_cases h : e.1 = k
    · simp only [h, decide_true, Option.map_some]
      by_cases h2 : k = fr
      · subst h2
        rw [if_pos rfl, if_pos (by unfold anyW; simp [h])]
        simp [updM, h]
      · rw [if_neg h2, List.find?_cons]
        simp [updM, h, h2]
    · simp only [h, decide_false]
      rw [ih]
      by_cases h2 : k = fr
      · subst h2
        rw [if_pos rfl, if_pos rfl, show anyW (e :: l) k = anyW l k by unfold anyW; simp [h]]
      · rw [if_neg h2, if_neg h2, List.find?_cons]
        simp [h]
theorem find_snoc (l : List Mac) (fr k : List Int) (port : Nat) (h : anyW l fr = false) : findW (l ++ [(fr, port)]) k = if k = fr then some port else findW l k := by
  unfold findW
  rw [List.find?_append]
  by_cases h2 : k = fr
  · subst h2
    have : l.find? (fun e => decide (e.1 = k)) = none := by
      rw [List.find?_eq_none]
      unfold anyW at h
      rw [List.any_eq_false] at h
      exact h
    rw [this, if_pos rfl]
    simp
  · rw [if_neg h2]
    rw [show List.find? (fun (e : Mac) => decide (e.1 = k)) [(fr, port)] = none by
      have h3 : ¬ fr = k := fun h => h2 h.symm
      simp [h3]]
    simp
theorem WS.learn {ports : Nat} {s : Sw} {l : List Mac} (h : WS ports s l) (port : Nat) (hp : port < ports) (fr : List Int) (h6 : fr.length = 6) (f0 : Int) (hf : fr.head? = some f0) : WS ports (learnS s port fr f0) (learnW l port fr f0) := by
  have hsome : (s.kn fr).isSome = anyW l fr := by rw [h.get, find_any]
  unfold learnS learnW
  rw [hsome, h.len]
  cases ha : anyW l fr with
  | true =>
    have hev : f0 % 2 = 0 := by
      unfold anyW at ha
      obtain ⟨e, he, hee⟩ := List.any_eq_true.1 ha
      exact h.even e he f0 (by rw [show e.1 = fr by simpa using hee]; exact hf)
    rw [if_pos ⟨hev, .inl rfl⟩, if_pos rfl, if_pos rfl]
    refine ⟨fun k => ?_, by simp, ?_, ?_, ?_, by simp [h.most]⟩
    · show (if k = fr then some port else s.kn k) = _
      rw [find_map, ha, if_pos rfl, h.get]
    · intro e he
      obtain ⟨x, hx, rfl⟩ := List.mem_map.1 he
      rw [updM_fst]; exact h.six x hx
    · intro e he
      obtain ⟨x, hx, rfl⟩ := List.mem_map.1 he
      rw [updM_fst]; exact h.even x hx
    · intro e he
      obtain ⟨x, hx, rfl⟩ := List.mem_map.1 he
      unfold updM
      split
      · exact hp
      · exact h.port x hx
  | false =>
    rw [if_neg (show ¬ (false = true) by decide)]
    by_cases hc : f0 % 2 = 0 ∧ l.length < 32
    · rw [if_pos ⟨hc.1, .inr hc.2⟩, if_pos hc, if_neg (show ¬ (false = true) by decide)]
      refine ⟨fun k => ?_, by simp, ?_, ?_, ?_, by simp; omega⟩
      · show (if k = fr then some port else s.kn k) = _
        rw [find_snoc _ _ _ _ ha, h.get]
      · intro e he
        rcases List.mem_append.1 he with he | he
        · exact h.six e he
        · simp at he; subst he; exact h6
      · intro e he
        rcases List.mem_append.1 he with he | he
        · exact h.even e he
        · simp at he; subst he; intro f hf'; rw [hf] at hf'; cases hf'; exact hc.1
      · intro e he
        rcases List.mem_append.1 he with he | he
        · exact h.port e he
        · simp at he; subst he; exact hp
    · rw [if_neg (fun hh => hc ⟨hh.1, hh.2.resolve_left (by decide)⟩), if_neg hc]
      exact h
theorem out_find {l : List Mac} {ports port : Nat} (hl : ∀ e ∈ l, e.2 < ports) (h8 : ports ≤ 8) {i : Nat} {e : Mac} (k : List Int) (he : l[i]? = some e) (hk : e.1 = k) (hb : anyW (l.take i) k = false) :
    outS ports port (findW l k) = if e.2 = port then [] else [e.2] := by
  have hf : findW l k = some e.2 := by
    unfold findW
    have h1 : l.find? (fun x => decide (x.1 = k)) = some e := by
      rw [List.find?_eq_some_iff_getElem]
      obtain ⟨hi, rfl⟩ := List.getElem?_eq_some_iff.1 he
      refine ⟨by simpa using hk, i, hi, rfl, fun j hj => ?_⟩
      unfold anyW at hb
      rw [List.any_eq_false] at hb
      have := hb l[j] (List.mem_take_iff_getElem.2 ⟨j, by omega, rfl⟩)
      simpa using this
    rw [h1]; rfl
  rw [hf]
  have hep := hl e (List.mem_of_getElem? he)
  unfold outS
  have hall : ∀ p : Nat, (decide (p ≠ port) && ((some e.2 : Option Nat).isNone || decide ((some e.2 : Option Nat) = some p))) = (decide (p = e.2) && decide (e.2 ≠ port)) := by
    intro p
    by_cases h1 : p = e.2
    · subst h1; simp
    · have : ¬ e.2 = p := fun h => h1 h.symm
      simp [h1, this]
  simp only [hall]
  by_cases h : e.2 = port
  · rw [if_pos h]; simp [h]
  · rw [if_neg h]
    simp only [ne_eq, h, not_false_eq_true, decide_true, Bool.and_true]
    have key : ∀ n q : Nat, q < n → (List.range n).filter (fun p => decide (p = q)) = [q] := by
      intro n
      induction n with
      | zero => intro q h; omega
      | succ n ih =>
        intro q hq
        rw [List.range_succ, List.filter_append]
        by_cases h2 : q < n
        · rw [ih q h2]; simp; omega
        · obtain rfl : q = n := by omega
          rw [show (List.range q).filter (fun p => decide (p = q)) = [] by rw [List.filter_eq_nil_iff]; intro a ha; simp at ha ⊢; omega]
          simp
    exact key _ _ hep
theorem find_none {l : List Mac} {k : List Int} (h : anyW l k = false) : findW l k = none := by
  have := find_any l k
  rw [h] at this
  cases hf : findW l k with
  | none => rfl
  | some x => rw [hf] at this; cases this
theorem Rw.put {e : TypeId} {size d n : Nat} {own : Nat → Nat} {w : World} {g o cap : Nat} {xs : List Value} (h : Rw e size own d w (.slice (some ⟨g, o, none⟩) n cap) n xs) (j : Nat) (hj : j < xs.length) (u : Value) :
    Rw e size own d (w.setCell ⟨g, o + j, none⟩ u) (.slice (some ⟨g, o, none⟩) n cap) n (xs.set j u) := by
  have hx := h.1
  rcases h.2 with ⟨e1, _⟩ | ⟨g', o', cap', cur, hv, ho, hb, hnc, hcm, hcs, ht⟩
  · cases e1
  · cases hv
    refine ⟨by rw [List.length_set, hx], .inr ⟨g, o, cap, cur.setIfInBounds (o + j) u, rfl, ho, hb.set_ _ _, hnc, hcm, by simpa using hcs, ?_⟩⟩
    rw [← ht]
    refine List.ext_getElem? (fun i => ?_)
    have hlen : j < n * size := by rw [← hx]; exact hj
    have hcap : n * size ≤ cap * size := Nat.mul_le_mul_right _ hnc
    rw [List.getElem?_set, List.getElem?_take, List.getElem?_take, List.getElem?_drop, List.getElem?_drop]
    simp only [Array.getElem?_toList, Array.getElem?_setIfInBounds, List.length_take, List.length_drop, Array.length_toList]
    by_cases hi : i < n * size
    · rw [if_pos hi, if_pos hi]
      by_cases hij : j = i
      · subst hij
        rw [if_pos rfl, if_pos rfl, if_pos (by omega), if_pos (by omega)]
      · rw [if_neg hij, if_neg (by omega)]
    · rw [if_neg hi, if_neg hi, if_neg (by omega)]
theorem macsC_set {l : List Mac} (h6 : ∀ e ∈ l, e.1.length = 6) {i : Nat} {e : Mac} (he : l[i]? = some e) (q : Nat) : macsC (l.set i (e.1, q)) = (macsC l).set (i * 7 + 6) (.int .i64 (q : Int)) := by
  induction l generalizing i with
  | nil => simp at he
  | cons x l ih =>
    have hx := macC_len x (h6 x (by simp))
    cases i with
    | zero =>
      simp at he
      subst he
      rw [List.set_cons_zero, macsC, List.flatMap_cons, macsC, List.flatMap_cons, Nat.zero_mul, Nat.zero_add, List.set_append_left _ _ (by rw [hx]; omega)]
      congr 1
      unfold macC
      rw [List.set_append_right _ _ (by simp [u8L, h6 x])]
      simp [u8L, h6 x]
    | succ i =>
      have := ih (fun e he => h6 e (by simp [he])) (i := i) (by simpa using he)
      rw [List.set_cons_succ, macsC, List.flatMap_cons, macsC, List.flatMap_cons, List.set_append_right _ _ (by rw [hx]; omega), hx]
      rw [macsC, macsC] at this
      rw [this]
      congr 2
      omega
end Go.Proofs.Ytpknabblllighaa
