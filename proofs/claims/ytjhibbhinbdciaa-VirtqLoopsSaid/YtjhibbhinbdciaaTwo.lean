import Derived.Test.YtjhibbhinbdciaaBase
namespace Go.Proofs.Ytjhibbhinbdciaa
set_option linter.unusedVariables false
open Go.RowKit
/-- two operations that may come in either order -/
theorem wpE_two {P : Program} {ops : Array Oper} {Q : Exit → Act → World → Prop} {S : World → Prop} {s i j : Nat} {oi oj : Oper} {n : Nat} {done : Array Bool} {a : Act} {w : World} (hi : ops[i]? = some oi) (hj : ops[j]? = some oj) (hr : Region.ready .any ops done = [i, j])
    (hgi : Region.wanted oi (yielded ops a.tmps) = true) (hgj : Region.wanted oj (yielded ops a.tmps) = true)
    (h1 : ∀ K : Act → World → Prop, (∀ a' w', S w' → wpE P ops Q S s n (done.setIfInBounds i true) a' w' → K a' w') → oi.wp P a w K Q)
    (h2 : ∀ K : Act → World → Prop, (∀ a' w', S w' → wpE P ops Q S s n (done.setIfInBounds j true) a' w' → K a' w') → oj.wp P a w K Q) : wpE P ops Q S s (n + 1) done a w := by
  refine ⟨fun h0 => (by rw [h0] at hr; cases hr), fun z hz => ?_⟩
  rw [hr] at hz
  simp only [List.mem_cons, List.not_mem_nil, or_false] at hz
  rcases hz with rfl | rfl
  · unfold wpOp
    simp only [hi, hgi, if_true]
    exact .inl (h1 _ fun a' w' hs hw => ⟨.inr hs, hw⟩)
  · unfold wpOp
    simp only [hj, hgj, if_true]
    exact .inl (h2 _ fun a' w' hs hw => ⟨.inr hs, hw⟩)
end Go.Proofs.Ytjhibbhinbdciaa
