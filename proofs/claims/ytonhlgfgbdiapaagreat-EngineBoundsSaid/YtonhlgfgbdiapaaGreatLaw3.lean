import Derived.Test.YtonhlgfgbdiapaaGreatLaw2
import Derived.Test.YtonhlgfgbdiapaaGreatLaw3c
import Derived.Test.YtonhlgfgbdiapaaGreatMemC
import Derived.Test.YtonhlgfgbdiapaaGreatPlace
/- Openings: a slice of calls of the IOMMU's script. -/
namespace Go.Proofs.YtonhlgfgbdiapaaGreat
set_option linter.unusedVariables false
open Go.ChangeShapes Go.WideShapes Go.ChangeAt Go.RowKit
/-- a call of a script: kind, device, size, address, data, write, guest, number -/
structure OpR where
  k : Int
  d : Int
  s : Int
  a : Nat
  v : Nat
  wr : Bool
  g : Int
  q : Int
def opC (o : OpR) : List Value := [.int .i64 o.k, .int .i64 o.d, .int .i64 o.s, .int .u64 (o.a : Int), .int .u64 (o.v : Int), .bool o.wr, .int .i64 o.g, .int .i64 o.q]
def i64B (z : Int) : Prop := -9223372036854775808 ≤ z ∧ z ≤ 9223372036854775807
structure OpB (o : OpR) : Prop where
  k : i64B o.k
  d : i64B o.d
  s : i64B o.s
  a : o.a < 18446744073709551616
  v : o.v < 18446744073709551616
  g : i64B o.g
  q : i64B o.q
def OpsAt (w : World) (v : Value) (L : List OpR) : Prop := ∃ A cap, v = .slice A L.length cap ∧ (0 < L.length → ∃ g o, A = some ⟨g, o, none⟩ ∧ g < w.heap.size ∧ ∀ k x, L[k]? = some x → ∀ j u, (opC x)[j]? = some u → w.cell? ⟨g, o + k * 8 + j, none⟩ = some u)
theorem OpsAt.upd {w w' : World} {v : Value} {L : List OpR} (h : OpsAt w v L) (hU : Upd (fun _ => False) w w') : OpsAt w' v L := by
  obtain ⟨A, cap, he, hf⟩ := h
  refine ⟨A, cap, he, fun hl => ?_⟩
  obtain ⟨g, o, hA, hg, hc⟩ := hf hl
  exact ⟨g, o, hA, Nat.lt_of_lt_of_le hg hU.size, fun k x hx j u hu => (hU.cell (p := ⟨g, o + k * 8 + j, none⟩) hg (fun h => h)).trans (hc k x hx j u hu)⟩
theorem OpsAt.cells {w : World} {L : List OpR} {A : Option Addr} {cap : Nat} (h : OpsAt w (.slice A L.length cap) L) {k : Nat} {x : OpR} (hx : L[k]? = some x) : ∃ g o, A = some ⟨g, o, none⟩ ∧ g < w.heap.size ∧ (w.cell? ⟨g, o + k * 8, none⟩ = some (.int .i64 x.k) ∧ w.cell? ⟨g, o + k * 8 + 1, none⟩ = some (.int .i64 x.d) ∧ w.cell? ⟨g, o + k * 8 + 2, none⟩ = some (.int .i64 x.s) ∧ w.cell? ⟨g, o + k * 8 + 3, none⟩ = some (.int .u64 (x.a : Int)) ∧ w.cell? ⟨g, o + k * 8 + 4, none⟩ = some (.int .u64 (x.v : Int)) ∧ w.cell? ⟨g, o + k * 8 + 5, none⟩ = some (.bool x.wr) ∧ w.cell? ⟨g, o + k * 8 + 6, none⟩ = some (.int .i64 x.g) ∧ w.cell? ⟨g, o + k * 8 + 7, none⟩ = some (.int .i64 x.q)) := by
  obtain ⟨A', cap', he, hf⟩ := h
  cases he
  obtain ⟨g, o, rfl, hg, hc⟩ := hf (Nat.lt_of_le_of_lt (Nat.zero_le k) (List.getElem?_eq_some_iff.1 hx).1)
  exact ⟨g, o, rfl, hg, hc k x hx 0 _ rfl, hc k x hx 1 _ rfl, hc k x hx 2 _ rfl, hc k x hx 3 _ rfl, hc k x hx 4 _ rfl, hc k x hx 5 _ rfl, hc k x hx 6 _ rfl, hc k x hx 7 _ rfl⟩
section
variable {H : Type} {enc : TypeId × Value → H}
theorem op_open {W : World} {fuel : Nat} {ys : List Value} {x : DataW H × List MemPlace} (h : DataW.trod enc Tryz.prog W 0 (fun _ => true) true fuel 49 ys = some x) :
    ∃ o : OpR, OpB o ∧ ∀ (j : Nat) (u : Value), (opC o)[j]? = some u → ys[j]? = some u := by
  obtain ⟨n0, y0, h0⟩ := struct_sub (j := 0) Tryz.underlying49 rfl h
  obtain ⟨n1, y1, h1⟩ := struct_sub (j := 1) Tryz.underlying49 rfl h
  obtain ⟨n2, y2, h2⟩ := struct_sub (j := 2) Tryz.underlying49 rfl h
  obtain ⟨n3, y3, h3⟩ := struct_sub (j := 3) Tryz.underlying49 rfl h
  obtain ⟨n4, y4, h4⟩ := struct_sub (j := 4) Tryz.underlying49 rfl h
  obtain ⟨n5, y5, h5⟩ := struct_sub (j := 5) Tryz.underlying49 rfl h
  obtain ⟨n6, y6, h6⟩ := struct_sub (j := 6) Tryz.underlying49 rfl h
  obtain ⟨n7, y7, h7⟩ := struct_sub (j := 0) Tryz.underlying47 rfl h6
  obtain ⟨n8, y8, h8⟩ := struct_sub (j := 1) Tryz.underlying47 rfl h6
  obtain ⟨z0, e0, w0⟩ := sub_int Tryz.underlying3 (by kernel_rfl) h0
  obtain ⟨z1, e1, w1⟩ := sub_int Tryz.underlying3 (by kernel_rfl) h1
  obtain ⟨z2, e2, w2⟩ := sub_int Tryz.underlying3 (by kernel_rfl) h2
  obtain ⟨z3, e3, w3⟩ := sub_int Tryz.underlying23 (by kernel_rfl) h3
  obtain ⟨z4, e4, w4⟩ := sub_int Tryz.underlying23 (by kernel_rfl) h4
  obtain ⟨z5, e5⟩ := sub_bool Tryz.underlying4 (by kernel_rfl) h5
  obtain ⟨z6, e6, w6⟩ := sub_int Tryz.underlying3 (by kernel_rfl) h7
  obtain ⟨z7, e7, w7⟩ := sub_int Tryz.underlying3 (by kernel_rfl) h8
  have b0 : i64B z0 := by unfold i64B; simpa [Lit.wf, IntKind.min, IntKind.max, IntKind.signed, IntKind.bits] using w0
  have b1 : i64B z1 := by unfold i64B; simpa [Lit.wf, IntKind.min, IntKind.max, IntKind.signed, IntKind.bits] using w1
  have b2 : i64B z2 := by unfold i64B; simpa [Lit.wf, IntKind.min, IntKind.max, IntKind.signed, IntKind.bits] using w2
  have b3 : 0 ≤ z3 ∧ z3 ≤ 18446744073709551615 := by simpa [Lit.wf, IntKind.min, IntKind.max, IntKind.signed, IntKind.bits] using w3
  have b4 : 0 ≤ z4 ∧ z4 ≤ 18446744073709551615 := by simpa [Lit.wf, IntKind.min, IntKind.max, IntKind.signed, IntKind.bits] using w4
  have b6 : i64B z6 := by unfold i64B; simpa [Lit.wf, IntKind.min, IntKind.max, IntKind.signed, IntKind.bits] using w6
  have b7 : i64B z7 := by unfold i64B; simpa [Lit.wf, IntKind.min, IntKind.max, IntKind.signed, IntKind.bits] using w7
  obtain ⟨a, rfl⟩ := Int.eq_ofNat_of_zero_le b3.1
  obtain ⟨v, rfl⟩ := Int.eq_ofNat_of_zero_le b4.1
  have hC : Tryz.prog.cellsOf 47 = 2 := by kernel_rfl
  have e6' : ys[6]? = some (.int .i64 z6) := by
    have e : ((ys.drop 6).take (Tryz.prog.cellsOf 47))[0]? = some (.int .i64 z6) := e6
    rw [hC] at e; simpa [List.getElem?_take, List.getElem?_drop] using e
  have e7' : ys[7]? = some (.int .i64 z7) := by
    have e : ((ys.drop 6).take (Tryz.prog.cellsOf 47))[1]? = some (.int .i64 z7) := e7
    rw [hC] at e; simpa [List.getElem?_take, List.getElem?_drop] using e
  refine ⟨⟨z0, z1, z2, a, v, z5, z6, z7⟩, ⟨b0, b1, b2, by show a < _; omega, by show v < _; omega, b6, b7⟩, fun j u hu => ?_⟩
  rcases (show j = 0 ∨ j = 1 ∨ j = 2 ∨ j = 3 ∨ j = 4 ∨ j = 5 ∨ j = 6 ∨ j = 7 by have := (List.getElem?_eq_some_iff.1 hu).1; simp [opC] at this; omega) with rfl | rfl | rfl | rfl | rfl | rfl | rfl | rfl
  · rw [← hu]; exact e0
  · rw [← hu]; exact e1
  · rw [← hu]; exact e2
  · rw [← hu]; exact e3
  · rw [← hu]; exact e4
  · rw [← hu]; exact e5
  · rw [← hu]; exact e6'
  · rw [← hu]; exact e7'
theorem ops_open {W : World} {A : Option Addr} {n cap : Nat} {xs : List Value} {p : List MemPlace} (hr : Reads W W.heap.size 8 A n xs)
    (he : ∀ i, i < n → ∃ (fuel : Nat) (D : DataW H) (Pl : List MemPlace), DataW.trod enc Tryz.prog W 0 (fun _ => true) true fuel 49 ((xs.drop (i * 8)).take 8) = some (D, Pl) ∧ ∀ x ∈ Pl, x ∈ p) :
    ∃ L : List OpR, L.length = n ∧ OpsAt W (.slice A n cap) L ∧ ∀ o ∈ L, OpB o := by
  have hc : ∀ i : Fin n, ∃ o : OpR, OpB o ∧ ∀ (j : Nat) (u : Value), (opC o)[j]? = some u → ((xs.drop (i * 8)).take 8)[j]? = some u := fun i => by
    obtain ⟨_, _, _, h, _⟩ := he i i.2
    exact op_open h
  obtain ⟨f, hf⟩ := Classical.axiomOfChoice hc
  refine ⟨List.ofFn f, by simp, ⟨A, cap, by simp, fun hl => ?_⟩, fun o ho => ?_⟩
  · have hn : 0 < n := by simpa using hl
    obtain ⟨g, o, rfl, hg, hcc⟩ := hr.first hn (by decide)
    refine ⟨g, o, rfl, hg, fun k x hx j u hu => ?_⟩
    have hk : k < n := by have := (List.getElem?_eq_some_iff.1 hx).1; simpa using this
    have hxe : f ⟨k, hk⟩ = x := by
      rw [List.getElem?_eq_some_iff] at hx
      obtain ⟨_, hx⟩ := hx
      rw [← hx]; simp
    have h1 := (hf ⟨k, hk⟩).2 j u (by rw [hxe]; exact hu)
    have hj : j < 8 := by
      have := (List.getElem?_eq_some_iff.1 hu).1
      simpa [opC] using this
    rw [List.getElem?_take, if_pos hj, List.getElem?_drop] at h1
    rw [Nat.add_assoc]
    exact hcc _ u h1
  · obtain ⟨i, rfl⟩ := List.mem_ofFn.1 ho
    exact (hf i).1
end
end Go.Proofs.YtonhlgfgbdiapaaGreat
