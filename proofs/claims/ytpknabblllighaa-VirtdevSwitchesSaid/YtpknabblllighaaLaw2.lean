import Derived.Test.YtpknabblllighaaLaw
import Derived.SizedLaws
/- More openings: how long a sized argument is; a slice of structs whose fields are integers. -/
namespace Go.Proofs.Ytpknabblllighaa
set_option linter.unusedVariables false
open Go.ChangeShapes Go.WideShapes Go.ChangeAt Go.RowKit
section
variable {H : Type} {enc : TypeId × Value → H} {P : Program}
theorem slice_bytes {t e : TypeId} {W : World} {A : Option Addr} {n cap : Nat} {d : DataW H} {p : List MemPlace} (ht : P.underlying t = some (.slice e)) (h : DataW.Trod enc P W 0 (fun _ => true) true t (.slice A n cap) d p)
    {ts : List TypeId} {ds : List (DataW H)} {j : Nat} (hts : ts[j]? = some t) (hds : ds[j]? = some d) (hsz : (DataW.weightsEach P ts ds).all (· ≤ reachBytes) = true) : n * P.bytesOf e ≤ 140737488351232 := by
  obtain ⟨fuel, hf⟩ := h
  rcases Go.Deep.open_slice ht hf with ⟨hcs, hx⟩ | ⟨a, len, cap', m, n', D, Pl, hcs, hb, hl, hm, hmm, hx, hi⟩
  · simp only [Value.cells, List.cons.injEq, and_true] at hcs
    cases hcs
    simp
  · simp only [Value.cells, List.cons.injEq, and_true] at hcs
    cases hcs
    have hd : d = _ := (Prod.mk.injEq _ _ _ _ ▸ hx : _ ∧ _).1
    rw [hd] at hds
    have := sized_slice hsz hts hds ht
    refine Nat.le_trans (Nat.mul_le_mul_right _ ?_) this
    simp
/-- a field of an element that is an integer -/
theorem struct_int {e : TypeId} {fs : Array Field} {j size i : Nat} {f : Field} {k : IntKind} {W : World} {xs : List Value} {fuel : Nat} {x : DataW H × List MemPlace} (hs : P.underlying e = some (.struct fs)) (hf : fs[j]? = some f) (hk : P.underlying f.type = some (.int k)) (hc : P.cellsOf f.type = 1)
    (ho : f.offset < size) (h : DataW.trod enc P W 0 (fun _ => true) true fuel e ((xs.drop (i * size)).take size) = some x) : ∃ z, xs[i * size + f.offset]? = some (.int k z) ∧ (Lit.int k z).wf = true := by
  obtain ⟨ys, n, _, rfl, hl, hlen, hfs⟩ := DataW.trod_struct hs h
  have hj := (Array.getElem?_eq_some_iff.1 hf).1
  have h1 := hfs j f hf
  rw [List.getElem?_eq_getElem (by omega)] at h1
  obtain ⟨z, hz, _, hw⟩ := DataW.trod_int hk h1
  refine ⟨z, ?_, hw⟩
  rw [hc] at hz
  have := congrArg (·[0]?) hz
  simpa [List.getElem?_take, List.getElem?_drop, ho] using this
end
end Go.Proofs.Ytpknabblllighaa
