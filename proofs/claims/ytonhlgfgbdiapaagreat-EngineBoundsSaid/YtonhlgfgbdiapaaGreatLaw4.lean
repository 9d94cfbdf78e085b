import Derived.Test.YtonhlgfgbdiapaaGreatLaw3
/- Openings: a slice of an engine's script. -/
namespace Go.Proofs.YtonhlgfgbdiapaaGreat
set_option linter.unusedVariables false
open Go.ChangeShapes Go.WideShapes Go.ChangeAt Go.RowKit
/-- a call of an engine's script: kind, size, offset, value, a call of the IOMMU -/
structure Op8 where
  k : Int
  z : Int
  off : Nat
  v : Nat
  x : OpR
def op8C (o : Op8) : List Value := .int .i64 o.k :: .int .i64 o.z :: .int .u64 (o.off : Int) :: .int .u64 (o.v : Int) :: opC o.x
structure Op8B (o : Op8) : Prop where
  k : i64B o.k
  z : i64B o.z
  off : o.off < 18446744073709551616
  v : o.v < 18446744073709551616
  x : OpB o.x
def Ops8At (w : World) (v : Value) (L : List Op8) : Prop := ∃ A cap, v = .slice A L.length cap ∧ (0 < L.length → ∃ g o, A = some ⟨g, o, none⟩ ∧ g < w.heap.size ∧ ∀ k x, L[k]? = some x → ∀ j u, (op8C x)[j]? = some u → w.cell? ⟨g, o + k * 12 + j, none⟩ = some u)
theorem Ops8At.upd {w w' : World} {v : Value} {L : List Op8} (h : Ops8At w v L) (hU : Upd (fun _ => False) w w') : Ops8At w' v L := by
  obtain ⟨A, cap, he, hf⟩ := h
  refine ⟨A, cap, he, fun hl => ?_⟩
  obtain ⟨g, o, hA, hg, hc⟩ := hf hl
  exact ⟨g, o, hA, Nat.lt_of_lt_of_le hg hU.size, fun k x hx j u hu => (hU.cell (p := ⟨g, o + k * 12 + j, none⟩) hg (fun h => h)).trans (hc k x hx j u hu)⟩
theorem Ops8At.cells {w : World} {L : List Op8} {A : Option Addr} {cap : Nat} (h : Ops8At w (.slice A L.length cap) L) {k : Nat} {x : Op8} (hx : L[k]? = some x) : ∃ g o, A = some ⟨g, o, none⟩ ∧ g < w.heap.size ∧ w.cell? ⟨g, o + k * 12, none⟩ = some (.int .i64 x.k) ∧ w.cell? ⟨g, o + k * 12 + 1, none⟩ = some (.int .i64 x.z) ∧ w.cell? ⟨g, o + k * 12 + 2, none⟩ = some (.int .u64 (x.off : Int)) ∧ w.cell? ⟨g, o + k * 12 + 3, none⟩ = some (.int .u64 (x.v : Int)) ∧ w.cell? ⟨g, o + k * 12 + 4, none⟩ = some (.int .i64 x.x.k) ∧ w.cell? ⟨g, o + k * 12 + 5, none⟩ = some (.int .i64 x.x.d) ∧ w.cell? ⟨g, o + k * 12 + 6, none⟩ = some (.int .i64 x.x.s) ∧ w.cell? ⟨g, o + k * 12 + 7, none⟩ = some (.int .u64 (x.x.a : Int)) ∧ w.cell? ⟨g, o + k * 12 + 8, none⟩ = some (.int .u64 (x.x.v : Int)) ∧ w.cell? ⟨g, o + k * 12 + 9, none⟩ = some (.bool x.x.wr) ∧ w.cell? ⟨g, o + k * 12 + 10, none⟩ = some (.int .i64 x.x.g) ∧ w.cell? ⟨g, o + k * 12 + 11, none⟩ = some (.int .i64 x.x.q) := by
  obtain ⟨A', cap', he, hf⟩ := h
  cases he
  obtain ⟨g, o, rfl, hg, hc⟩ := hf (Nat.lt_of_le_of_lt (Nat.zero_le k) (List.getElem?_eq_some_iff.1 hx).1)
  exact ⟨g, o, rfl, hg, hc k x hx 0 _ rfl, hc k x hx 1 _ rfl, hc k x hx 2 _ rfl, hc k x hx 3 _ rfl, hc k x hx 4 _ rfl, hc k x hx 5 _ rfl, hc k x hx 6 _ rfl, hc k x hx 7 _ rfl, hc k x hx 8 _ rfl, hc k x hx 9 _ rfl, hc k x hx 10 _ rfl, hc k x hx 11 _ rfl⟩
section
variable {H : Type} {enc : TypeId × Value → H}
theorem op8_open {W : World} {fuel : Nat} {ys : List Value} {x : DataW H × List MemPlace} (h : DataW.trod enc Tryz.prog W 0 (fun _ => true) true fuel 51 ys = some x) :
    ∃ o : Op8, Op8B o ∧ ∀ (j : Nat) (u : Value), (op8C o)[j]? = some u → ys[j]? = some u := by
  obtain ⟨n0, y0, h0⟩ := struct_sub (j := 0) Tryz.underlying51 rfl h
  obtain ⟨n1, y1, h1⟩ := struct_sub (j := 1) Tryz.underlying51 rfl h
  obtain ⟨n2, y2, h2⟩ := struct_sub (j := 2) Tryz.underlying51 rfl h
  obtain ⟨n3, y3, h3⟩ := struct_sub (j := 3) Tryz.underlying51 rfl h
  obtain ⟨n4, y4, h4⟩ := struct_sub (j := 4) Tryz.underlying51 rfl h
  obtain ⟨z0, e0, w0⟩ := sub_int Tryz.underlying3 (by kernel_rfl) h0
  obtain ⟨z1, e1, w1⟩ := sub_int Tryz.underlying3 (by kernel_rfl) h1
  obtain ⟨z2, e2, w2⟩ := sub_int Tryz.underlying23 (by kernel_rfl) h2
  obtain ⟨z3, e3, w3⟩ := sub_int Tryz.underlying23 (by kernel_rfl) h3
  obtain ⟨o, ho, hc⟩ := op_open h4
  have b0 : i64B z0 := by unfold i64B; simpa [Lit.wf, IntKind.min, IntKind.max, IntKind.signed, IntKind.bits] using w0
  have b1 : i64B z1 := by unfold i64B; simpa [Lit.wf, IntKind.min, IntKind.max, IntKind.signed, IntKind.bits] using w1
  have b2 : 0 ≤ z2 ∧ z2 ≤ 18446744073709551615 := by simpa [Lit.wf, IntKind.min, IntKind.max, IntKind.signed, IntKind.bits] using w2
  have b3 : 0 ≤ z3 ∧ z3 ≤ 18446744073709551615 := by simpa [Lit.wf, IntKind.min, IntKind.max, IntKind.signed, IntKind.bits] using w3
  obtain ⟨a, rfl⟩ := Int.eq_ofNat_of_zero_le b2.1
  obtain ⟨v, rfl⟩ := Int.eq_ofNat_of_zero_le b3.1
  have hC : Tryz.prog.cellsOf 49 = 8 := by kernel_rfl
  refine ⟨⟨z0, z1, a, v, o⟩, ⟨b0, b1, by show a < _; omega, by show v < _; omega, ho⟩, fun j u hu => ?_⟩
  match j with
  | 0 => rw [← hu]; exact e0
  | 1 => rw [← hu]; exact e1
  | 2 => rw [← hu]; exact e2
  | 3 => rw [← hu]; exact e3
  | j + 4 =>
    have h1 : ((ys.drop 4).take (Tryz.prog.cellsOf 49))[j]? = some u := hc j u hu
    rw [hC, List.getElem?_take, List.getElem?_drop] at h1
    split at h1
    · rw [Nat.add_comm]; exact h1
    · cases h1
theorem op8s_open {W : World} {A : Option Addr} {n cap : Nat} {xs : List Value} {p : List MemPlace} (hr : Reads W W.heap.size 12 A n xs)
    (he : ∀ i, i < n → ∃ (fuel : Nat) (D : DataW H) (Pl : List MemPlace), DataW.trod enc Tryz.prog W 0 (fun _ => true) true fuel 51 ((xs.drop (i * 12)).take 12) = some (D, Pl) ∧ ∀ x ∈ Pl, x ∈ p) :
    ∃ L : List Op8, L.length = n ∧ Ops8At W (.slice A n cap) L ∧ ∀ o ∈ L, Op8B o := by
  have hc : ∀ i : Fin n, ∃ o : Op8, Op8B o ∧ ∀ (j : Nat) (u : Value), (op8C o)[j]? = some u → ((xs.drop (i * 12)).take 12)[j]? = some u := fun i => by
    obtain ⟨_, _, _, h, _⟩ := he i i.2
    exact op8_open h
  obtain ⟨f, hf⟩ := Classical.axiomOfChoice hc
  refine ⟨List.ofFn f, by simp, ⟨A, cap, by simp, fun hl => ?_⟩, fun o ho => ?_⟩
  · have hn : 0 < n := by simpa using hl
    obtain ⟨g, o, rfl, hg, hcc⟩ := hr.first hn (by decide)
    refine ⟨g, o, rfl, hg, fun k x hx j u hu => ?_⟩
    have hk : k < n := by have := (List.getElem?_eq_some_iff.1 hx).1; simpa using this
    have hxe : f ⟨k, hk⟩ = x := by
      rw [List.getElem?_eq_some_iff] at hx
      obtain ⟨_, hx⟩ := hx
      rw [← hx]; simp
    have h1 := (hf ⟨k, hk⟩).2 j u (by rw [hxe]; exact hu)
    have hj : j < 12 := by
      have := (List.getElem?_eq_some_iff.1 hu).1
      simpa [op8C, opC] using this
    rw [List.getElem?_take, if_pos hj, List.getElem?_drop] at h1
    rw [Nat.add_assoc]
    exact hcc _ u h1
  · obtain ⟨i, rfl⟩ := List.mem_ofFn.1 ho
    exact (hf i).1
end
end Go.Proofs.YtonhlgfgbdiapaaGreat
