import Derived.Test.YtonhlgfgbdiapaaGreatLaw2
import Derived.Test.YtonhlgfgbdiapaaGreatMemC
import Derived.Test.YtonhlgfgbdiapaaGreatPlace
/- Openings: a slice of cells. -/
namespace Go.Proofs.YtonhlgfgbdiapaaGreat
set_option linter.unusedVariables false
open Go.ChangeShapes Go.WideShapes Go.ChangeAt Go.RowKit
section
variable {H : Type} {enc : TypeId × Value → H} {P : Program}
theorem struct_sub {e : TypeId} {fs : Array Field} {j fuel : Nat} {f : Field} {W : World} {ys : List Value} {x : DataW H × List MemPlace} (hs : P.underlying e = some (.struct fs)) (hf : fs[j]? = some f)
    (h : DataW.trod enc P W 0 (fun _ => true) true fuel e ys = some x) : ∃ n y, DataW.trod enc P W 0 (fun _ => true) true n f.type ((ys.drop f.offset).take (P.cellsOf f.type)) = some y := by
  obtain ⟨zs, n, _, rfl, hl, hlen, hfs⟩ := DataW.trod_struct hs h
  have hj := (Array.getElem?_eq_some_iff.1 hf).1
  have h1 := hfs j f hf
  rw [List.getElem?_eq_getElem (by omega)] at h1
  exact ⟨_, _, h1⟩
theorem sub_int {t : TypeId} {k : IntKind} {W : World} {n o : Nat} {ys : List Value} {y : DataW H × List MemPlace} (hk : P.underlying t = some (.int k)) (hc : P.cellsOf t = 1) (h : DataW.trod enc P W 0 (fun _ => true) true n t ((ys.drop o).take (P.cellsOf t)) = some y) :
    ∃ z, ys[o]? = some (.int k z) ∧ (Lit.int k z).wf = true := by
  obtain ⟨z, hz, _, hw⟩ := DataW.trod_int hk h
  refine ⟨z, ?_, hw⟩
  rw [hc] at hz
  have := congrArg (·[0]?) hz
  simpa [List.getElem?_take, List.getElem?_drop] using this
theorem sub_bool {t : TypeId} {W : World} {n o : Nat} {ys : List Value} {y : DataW H × List MemPlace} (hk : P.underlying t = some .bool) (hc : P.cellsOf t = 1) (h : DataW.trod enc P W 0 (fun _ => true) true n t ((ys.drop o).take (P.cellsOf t)) = some y) :
    ∃ z, ys[o]? = some (.bool z) := by
  obtain ⟨z, hz, _⟩ := DataW.trod_bool hk h
  refine ⟨z, ?_⟩
  rw [hc] at hz
  have := congrArg (·[0]?) hz
  simpa [List.getElem?_take, List.getElem?_drop] using this
end
section
variable {H : Type} {enc : TypeId × Value → H}
theorem cell_open {W : World} {fuel : Nat} {ys : List Value} {x : DataW H × List MemPlace} (h : DataW.trod enc Tryz.prog W 0 (fun _ => true) true fuel 26 ys = some x) :
    ∃ c : Int × Nat, ys[0]? = some (.int .i64 c.1) ∧ ys[1]? = some (.int .u64 (c.2 : Int)) ∧ (-9223372036854775808 ≤ c.1 ∧ c.1 ≤ 9223372036854775807 ∧ c.2 < 18446744073709551616) := by
  obtain ⟨n0, y0, h0⟩ := struct_sub (j := 0) Tryz.underlying26 rfl h
  obtain ⟨n1, y1, h1⟩ := struct_sub (j := 1) Tryz.underlying26 rfl h
  obtain ⟨z0, e0, w0⟩ := sub_int Tryz.underlying3 (by kernel_rfl) h0
  obtain ⟨z1, e1, w1⟩ := sub_int Tryz.underlying23 (by kernel_rfl) h1
  have b0 : -9223372036854775808 ≤ z0 ∧ z0 ≤ 9223372036854775807 := by simpa [Lit.wf, IntKind.min, IntKind.max, IntKind.signed, IntKind.bits] using w0
  have b1 : 0 ≤ z1 ∧ z1 ≤ 18446744073709551615 := by simpa [Lit.wf, IntKind.min, IntKind.max, IntKind.signed, IntKind.bits] using w1
  obtain ⟨v, rfl⟩ := Int.eq_ofNat_of_zero_le b1.1
  exact ⟨(z0, v), e0, e1, b0.1, b0.2, by show v < _; omega⟩
theorem cells_open {W : World} {A : Option Addr} {n cap : Nat} {xs : List Value} {p : List MemPlace} (hr : Reads W W.heap.size 2 A n xs)
    (he : ∀ i, i < n → ∃ (fuel : Nat) (D : DataW H) (Pl : List MemPlace), DataW.trod enc Tryz.prog W 0 (fun _ => true) true fuel 26 ((xs.drop (i * 2)).take 2) = some (D, Pl) ∧ ∀ x ∈ Pl, x ∈ p) :
    ∃ L : List (Int × Nat), L.length = n ∧ CellsAt W (.slice A n cap) L ∧ ∀ x ∈ L, -9223372036854775808 ≤ x.1 ∧ x.1 ≤ 9223372036854775807 ∧ x.2 < 18446744073709551616 := by
  have hc : ∀ i : Fin n, ∃ c : Int × Nat, ((xs.drop (i * 2)).take 2)[0]? = some (.int .i64 c.1) ∧ ((xs.drop (i * 2)).take 2)[1]? = some (.int .u64 (c.2 : Int)) ∧ (-9223372036854775808 ≤ c.1 ∧ c.1 ≤ 9223372036854775807 ∧ c.2 < 18446744073709551616) := fun i => by
    obtain ⟨_, _, _, h, _⟩ := he i i.2
    exact cell_open h
  obtain ⟨f, hf⟩ := Classical.axiomOfChoice hc
  refine ⟨List.ofFn f, by simp, ⟨A, cap, by simp, fun hl => ?_⟩, fun o ho => ?_⟩
  · have hn : 0 < n := by simpa using hl
    obtain ⟨g, o, rfl, hg, hcc⟩ := hr.first hn (by decide)
    refine ⟨g, o, rfl, hg, fun k x hx => ?_⟩
    have hk : k < n := by have := (List.getElem?_eq_some_iff.1 hx).1; simpa using this
    have hxe : f ⟨k, hk⟩ = x := by
      rw [List.getElem?_eq_some_iff] at hx
      obtain ⟨_, hx⟩ := hx
      rw [← hx]; simp
    obtain ⟨h1, h2, _⟩ := hf ⟨k, hk⟩
    rw [hxe] at h1 h2
    rw [List.getElem?_take, if_pos (by decide), List.getElem?_drop] at h1 h2
    rw [Nat.add_assoc]
    exact ⟨hcc _ _ h1, hcc _ _ h2⟩
  · obtain ⟨i, rfl⟩ := List.mem_ofFn.1 ho
    exact (hf i).2.2
end
end Go.Proofs.YtonhlgfgbdiapaaGreat
