import Derived.Test.YtpodeclkgcgpgaaMref5
import Derived.Test.YtpodeclkgcgpgaaF5
import Derived.Test.YtpodeclkgcgpgaaApp
/- The document's pool (citadelref09.P): its shape, and what its lists of waits are to the program's bits. -/
namespace Go.Proofs.Ytpodeclkgcgpgaa
set_option linter.unusedVariables false
open Go.RowKit
set_option maxRecDepth 100000

/-- two operations that may come in either order -/
theorem wpE_two {P : Program} {ops : Array Oper} {Q : Exit → Act → World → Prop} {S : World → Prop} {s i j : Nat} {oi oj : Oper} {n : Nat} {done : Array Bool} {a : Act} {w : World} (hi : ops[i]? = some oi) (hj : ops[j]? = some oj) (hr : Region.ready .any ops done = [i, j])
    (hgi : Region.wanted oi (yielded ops a.tmps) = true) (hgj : Region.wanted oj (yielded ops a.tmps) = true)
    (h1 : ∀ K : Act → World → Prop, (∀ a' w', S w' → wpE P ops Q S s n (done.setIfInBounds i true) a' w' → K a' w') → oi.wp P a w K Q)
    (h2 : ∀ K : Act → World → Prop, (∀ a' w', S w' → wpE P ops Q S s n (done.setIfInBounds j true) a' w' → K a' w') → oj.wp P a w K Q) : wpE P ops Q S s (n + 1) done a w := by
  refine ⟨fun h0 => (by rw [h0] at hr; cases hr), fun z hz => ?_⟩
  rw [hr] at hz
  simp only [List.mem_cons, List.not_mem_nil, or_false] at hz
  rcases hz with rfl | rfl
  · unfold wpOp
    simp only [hi, hgi, if_true]
    exact .inl (h1 _ fun a' w' hs hw => ⟨.inr hs, hw⟩)
  · unfold wpOp
    simp only [hj, hgj, if_true]
    exact .inl (h2 _ fun a' w' hs hw => ⟨.inr hs, hw⟩)

/-- a list of numbers below 64, and the number whose bits they are -/
structure RelB (l : List Int) (b : Int) : Prop where
  lt : ∀ x ∈ l, 0 ≤ x ∧ x < 64
  bit : ∃ B : Nat, b = (B : Int) ∧ ∀ j, B.testBit j = decide ((j : Int) ∈ l)
def orB (l : List Int) : Nat := l.foldl (fun a x => a ||| 2 ^ x.toNat) 0
theorem orB_snoc (l : List Int) (x : Int) : orB (l ++ [x]) = orB l ||| 2 ^ x.toNat := by simp [orB]
theorem orB_bit (l : List Int) (h : ∀ x ∈ l, 0 ≤ x ∧ x < 64) : ∀ j, (orB l).testBit j = decide ((j : Int) ∈ l) := by
  have key : ∀ (l : List Int) (a : Nat), (∀ x ∈ l, 0 ≤ x ∧ x < 64) → ∀ j, (l.foldl (fun a x => a ||| 2 ^ x.toNat) a).testBit j = (a.testBit j || decide ((j : Int) ∈ l)) := by
    intro l
    induction l with
    | nil => intro a _ j; simp
    | cons x l ih =>
      intro a hl j
      have hx := hl x (by simp)
      rw [List.foldl_cons, ih _ (fun y hy => hl y (by simp [hy]))]
      rw [Nat.testBit_or, Nat.testBit_two_pow]
      have : decide ((j : Int) ∈ x :: l) = (decide (x.toNat = j) || decide ((j : Int) ∈ l)) := by
        rw [← Bool.decide_or]
        exact decide_eq_decide.2 ⟨fun h => by
          rcases List.mem_cons.1 h with h | h
          · exact Or.inl (by omega)
          · exact Or.inr h, fun h => by
          rcases h with h | h
          · exact List.mem_cons.2 (Or.inl (by omega))
          · exact List.mem_cons.2 (Or.inr h)⟩
      rw [this, Bool.or_assoc]
  intro j
  have := key l 0 h j
  simpa [orB] using this
theorem RelB.or {l : List Int} {b : Int} (h : RelB l b) : b = (orB l : Int) := by
  obtain ⟨B, rfl, hB⟩ := h.bit
  congr 1
  exact Nat.eq_of_testBit_eq (fun j => by rw [hB, orB_bit l h.lt])
theorem orB_lt {l : List Int} (h : ∀ x ∈ l, 0 ≤ x ∧ x < 64) : orB l < 18446744073709551616 := by
  have : orB l < 2 ^ 64 := Nat.lt_pow_two_of_testBit _ (fun i hi => by
    rw [orB_bit l h]
    simp only [decide_eq_false_iff_not]
    intro hm; have := h _ hm; omega)
  simpa using this
theorem RelB.zero {l : List Int} {b : Int} (h : RelB l b) : b = 0 ↔ l = [] := by
  obtain ⟨B, rfl, hB⟩ := h.bit
  constructor
  · intro e
    have e' : B = 0 := by omega
    rcases l with _ | ⟨x, l⟩
    · rfl
    · exfalso
      have hx := h.lt x (by simp)
      have := hB x.toNat
      rw [e', Nat.zero_testBit, show ((x.toNat : Nat) : Int) = x from by omega] at this
      simp at this
  · rintro rfl
    have : B = 0 := Nat.eq_of_testBit_eq (fun j => by rw [hB]; simp)
    rw [this]; rfl
theorem RelB.del {l : List Int} {b : Int} (h : RelB l b) {k : Nat} (hk : k < 64) : RelB (l.filter (fun x => x != (k : Int))) (bits .and .u64 b (notB ((2 ^ k : Nat) : Int))) := by
  have hlt : orB l < 2 ^ 64 := by simpa using orB_lt h.lt
  have hb := h.or
  obtain ⟨B, hBe, hB⟩ := h.bit
  rw [notB_pow hk, hb]
  have h2 : (2 : Nat) ^ k < 2 ^ 64 := Nat.pow_lt_pow_right (by decide) hk
  have hx : (18446744073709551615 ^^^ 2 ^ k) < 2 ^ 64 := Nat.xor_lt_two_pow (by decide) h2
  rw [u64_and_nat _ _ (by simpa using hlt) (by simpa using hx)]
  refine ⟨fun x hx => h.lt x (List.mem_filter.1 hx).1, _, rfl, fun j => ?_⟩
  rw [Nat.testBit_and, orB_bit l h.lt, Nat.testBit_xor, show (18446744073709551615 : Nat) = 2 ^ 64 - 1 from rfl, Nat.testBit_two_pow_sub_one, Nat.testBit_two_pow]
  by_cases hm : (j : Int) ∈ l
  · have hj := h.lt _ hm
    have hj64 : j < 64 := by omega
    by_cases e : k = j
    · subst e; simp [hm, hj64]
    · have e' : ¬ (j : Int) = (k : Int) := by omega
      simp [hm, hj64, e, e', List.mem_filter]
  · simp [hm, List.mem_filter]
theorem RelB.all {h : Nat} (h8 : h ≤ 8) : RelB (63 :: (List.range h).map (fun i : Nat => (i : Int))) (allB h) := by
  obtain ⟨B, hB, hBt⟩ := Bits.all h8
  refine ⟨fun x hx => ?_, B, hB, fun j => ?_⟩
  · rcases List.mem_cons.1 hx with rfl | hx
    · omega
    · obtain ⟨i, hi, rfl⟩ := List.mem_map.1 hx
      have := List.mem_range.1 hi
      omega
  · rw [hBt.2]
    have : decide ((j : Int) ∈ 63 :: (List.range h).map (fun i : Nat => (i : Int))) = (decide (j < h) || decide (j = 63)) := by
      rw [← Bool.decide_or]
      exact decide_eq_decide.2 ⟨fun hm => by
        rcases List.mem_cons.1 hm with hm | hm
        · exact Or.inr (by omega)
        · obtain ⟨i, hi, he⟩ := List.mem_map.1 hm
          have := List.mem_range.1 hi
          exact Or.inl (by omega), fun hm => by
        rcases hm with hm | hm
        · exact List.mem_cons.2 (Or.inr (List.mem_map.2 ⟨j, List.mem_range.2 hm, rfl⟩))
        · exact List.mem_cons.2 (Or.inl (by omega))⟩
    rw [this]; simp

/-- a list of integers that a slice holds, in a block of colour d -/
def Row (own : Nat → Nat) (d : Nat) (w : World) (v : Value) (l : List Int) : Prop := w.ownsRow 0 3 1 v l.length (l.map (.int .i64)) ∧ ∀ g, v.ownBlock = some g → own g = d
theorem Row.step {C : Nat → Prop} {own own' : Nat → Nat} {d : Nat} {w w' : World} {v : Value} {l : List Int} (h : Row own d w v l) (hS : Step C own w own' w') (hd : ¬ C d) : Row own' d w' v l := by
  obtain ⟨⟨h1, h2⟩, h3⟩ := h
  rcases h2 with h2 | ⟨g, cap, cur, rfl, hb, hg, hr⟩
  · exact ⟨⟨h1, Or.inl h2⟩, fun g hg => by rw [h2.1] at hg; cases hg⟩
  · have ho : own g = d := h3 g rfl
    obtain ⟨hB, ho'⟩ := hS.blk (show Blk w g 3 cur from hg) ho hd
    exact ⟨⟨h1, Or.inr ⟨g, cap, cur, rfl, hb, hB, hr⟩⟩, fun g' e => by
      obtain rfl : g = g' := by simpa [Value.ownBlock] using e
      exact ho'⟩
theorem Row.nil (own : Nat → Nat) (d : Nat) (w : World) : Row own d w (.slice none 0 0) [] := ⟨World.ownsRow_nil _ _ _ _, fun g e => by cases e⟩
theorem Row.form {own : Nat → Nat} {d : Nat} {w : World} {v : Value} {l : List Int} (h : Row own d w v l) :
    ∃ A cap, v = .slice A l.length cap ∧ (l ≠ [] → ∃ g, A = some ⟨g, 0, none⟩ ∧ own g = d ∧ g < w.heap.size ∧ ∀ j x, l[j]? = some x → w.cell? ⟨g, j, none⟩ = some (.int .i64 x)) := by
  obtain ⟨h1, h3⟩ := h
  rcases h1.2 with ⟨rfl, h0⟩ | ⟨g, cap, cur, rfl, hb, hg, hr⟩
  · exact ⟨none, 0, by rw [h0], fun hl => absurd (List.eq_nil_of_length_eq_zero h0) hl⟩
  · refine ⟨_, cap, rfl, fun hl => ⟨g, rfl, h3 g rfl, (show Blk w g 3 cur from hg).lt, fun j x hx => ?_⟩⟩
    have hj := (List.getElem?_eq_some_iff.1 hx).1
    rw [World.ownsRow.cellAt h1 j (by omega), List.getElem?_map, hx]; rfl
theorem Row.none_ {own : Nat → Nat} {d : Nat} {w : World} {v : Value} (h : Row own d w v []) : ∃ A cap, v = .slice A 0 cap := by
  obtain ⟨A, cap, h, _⟩ := h.form; exact ⟨A, cap, h⟩

/-- the pool's own cells -/
def prC (rp qo qw n : Nat) (res harts : Int) : Array Value := #[.pointer (some ⟨rp, 0, none⟩), .int .i64 res, .int .i64 harts, .slice (some ⟨qo, 0, none⟩) n n, .slice (some ⟨qw, 0, none⟩) n n]
structure PrIn (own : Nat → Nat) (c : Nat) (w : World) (pp rp qo qw n : Nat) (res harts : Int) (ow : List Int) (vs : List Value) (ls : List (List Int)) (ex : Nat) : Prop where
  bp : Blk w pp 174 (prC rp qo qw n res harts)
  op : own pp = c
  bo : Blk w qo 3 (ow.map (.int .i64)).toArray
  oo : own qo = c
  bw : Blk w qw 45 vs.toArray
  oq : own qw = c
  lo : ow.length = n
  lv : vs.length = n
  ll : ls.length = n
  hn : n ≤ 1024
  hc : c < 100
  row : ∀ k v l, k ≠ ex → vs[k]? = some v → ls[k]? = some l → Row own (100 + k) w v l ∧ l.length ≤ 9
/-- what the lists are to the bits -/
structure RelA (ow bt : List Int) (ls : List (List Int)) : Prop where
  lb : bt.length = ow.length
  ll : ls.length = ow.length
  on : ∀ (k : Nat) l b, ow[k]? = some (-2) → ls[k]? = some l → bt[k]? = some b → RelB l b
  off : ∀ (k : Nat) o b, ow[k]? = some o → o ≠ -2 → bt[k]? = some b → b = 0
def PrAt (own : Nat → Nat) (c : Nat) (w : World) (pp rp n : Nat) (res harts : Int) (ow bt : List Int) : Prop := ∃ qo qw vs ls, PrIn own c w pp rp qo qw n res harts ow vs ls n ∧ RelA ow bt ls
section
variable {own own' : Nat → Nat} {c pp rp qo qw n ex : Nat} {res harts : Int} {ow bt : List Int} {vs : List Value} {ls : List (List Int)} {w w' : World}
theorem PrIn.step {C : Nat → Prop} (h : PrIn own c w pp rp qo qw n res harts ow vs ls ex) (hS : Step C own w own' w') (hc : ¬ C c) (hk : ∀ k, k < n → ¬ C (100 + k)) : PrIn own' c w' pp rp qo qw n res harts ow vs ls ex := by
  obtain ⟨b1, o1⟩ := hS.blk h.bp h.op hc
  obtain ⟨b2, o2⟩ := hS.blk h.bo h.oo hc
  obtain ⟨b3, o3⟩ := hS.blk h.bw h.oq hc
  refine ⟨b1, o1, b2, o2, b3, o3, h.lo, h.lv, h.ll, h.hn, h.hc, fun k v l hx hv hl => ?_⟩
  have hkn : k < n := by have := (List.getElem?_eq_some_iff.1 hv).1; rw [h.lv] at this; exact this
  obtain ⟨h1, h2⟩ := h.row k v l hx hv hl
  exact ⟨h1.step hS (hk k hkn), h2⟩
theorem PrAt.step {C : Nat → Prop} (h : PrAt own c w pp rp n res harts ow bt) (hS : Step C own w own' w') (hc : ¬ C c) (hk : ∀ k, k < n → ¬ C (100 + k)) : PrAt own' c w' pp rp n res harts ow bt := by
  obtain ⟨qo, qw, vs, ls, h, hr⟩ := h
  exact ⟨qo, qw, vs, ls, h.step hS hc hk, hr⟩
theorem PrIn.cellO (h : PrIn own c w pp rp qo qw n res harts ow vs ls ex) (k : Nat) : w.cell? ⟨qo, k, none⟩ = ow[k]?.map (.int .i64) := by
  rw [h.bo.cell]; simp
theorem PrIn.cellW (h : PrIn own c w pp rp qo qw n res harts ow vs ls ex) (k : Nat) : w.cell? ⟨qw, k, none⟩ = vs[k]? := by
  rw [h.bw.cell]; simp
theorem PrIn.c4 (h : PrIn own c w pp rp qo qw n res harts ow vs ls ex) : w.cell? ⟨pp, 4, none⟩ = some (.slice (some ⟨qw, 0, none⟩) n n) := h.bp.cell 4
theorem PrIn.c3 (h : PrIn own c w pp rp qo qw n res harts ow vs ls ex) : w.cell? ⟨pp, 3, none⟩ = some (.slice (some ⟨qo, 0, none⟩) n n) := h.bp.cell 3
theorem PrIn.c2 (h : PrIn own c w pp rp qo qw n res harts ow vs ls ex) : w.cell? ⟨pp, 2, none⟩ = some (.int .i64 harts) := h.bp.cell 2
theorem PrIn.c1 (h : PrIn own c w pp rp qo qw n res harts ow vs ls ex) : w.cell? ⟨pp, 1, none⟩ = some (.int .i64 res) := h.bp.cell 1
theorem PrIn.c0 (h : PrIn own c w pp rp qo qw n res harts ow vs ls ex) : w.cell? ⟨pp, 0, none⟩ = some (.pointer (some ⟨rp, 0, none⟩)) := h.bp.cell 0
end
end Go.Proofs.Ytpodeclkgcgpgaa
