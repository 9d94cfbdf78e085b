import Derived.Test.YtpknabblllighaaLaw2
/- An argument that is a slice of slices of bytes. -/
namespace Go.Proofs.Ytpknabblllighaa
set_option linter.unusedVariables false
open Go.ChangeShapes Go.WideShapes Go.ChangeAt Go.RowKit
section
variable {H : Type} {enc : TypeId × Value → H} {P : Program}
theorem weights_all {e : TypeId} {D : DataW H} {q : Nat} (hq : q ∈ D.weights P e) : ∀ (l : List (DataW H)), D ∈ l → q ∈ DataW.weightsAll P e l
  | [], h => by simp at h
  | d :: r, h => by
    simp only [DataW.weightsAll, List.mem_append]
    rcases List.mem_cons.1 h with rfl | h
    · exact .inl hq
    · exact .inr (weights_all hq r h)
/-- a slice that is read: its cells, each element's own reading, and how much it weighs -/
theorem open_cells {t e : TypeId} {size fuel : Nat} {W : World} {cs : List Value} {d : DataW H} {p : List MemPlace} (ht : P.underlying t = some (.slice e)) (hC : P.cellsOf e = size) (hsz : 0 < size)
    (h : DataW.trod enc P W 0 (fun _ => true) true fuel t cs = some (d, p)) (hlt : ∀ x ∈ p, x.block < W.heap.size) :
    ∃ (A : Option Addr) (n cap : Nat) (xs : List Value), cs = [.slice A n cap] ∧ n ≤ cap ∧ cap ≤ maxLen ∧ Reads W W.heap.size size A n xs ∧ (∀ B, (∀ q ∈ d.weights P t, q ≤ B) → n * P.bytesOf e ≤ B) ∧
      ∀ i, i < n → ∃ (fuel : Nat) (D : DataW H) (Pl : List MemPlace), DataW.trod enc P W 0 (fun _ => true) true fuel e ((xs.drop (i * size)).take size) = some (D, Pl) ∧ (∀ x ∈ Pl, x ∈ p) ∧ ∀ q ∈ D.weights P e, q ∈ d.weights P t := by
  rcases Go.Deep.open_slice ht h with ⟨hcs, hx⟩ | ⟨a, len0, cap, m, n, D, Pl, hcs, hb, hl, hm, hmm, hx, hi⟩
  · exact ⟨none, 0, 0, [], hcs, Nat.le_refl _, by simp [maxLen], ⟨by simp, fun h => absurd h (by omega)⟩, fun B hB => by simp, fun i hi => absurd hi (by omega)⟩
  · simp only [if_true] at hmm
    subst hmm
    have hp : p = MemPlace.row a (m * P.cellsOf e) ++ (List.range m).flatMap Pl := (Prod.mk.injEq _ _ _ _ ▸ hx : _ ∧ _).2
    have hd : d = .slice ((List.range len0).map D) ((List.range (m - len0)).map fun j => D (len0 + j)) := (Prod.mk.injEq _ _ _ _ ▸ hx : _ ∧ _).1
    have hcell : ∀ i, i < m → ∃ cs', cs'.length = size ∧ DataW.trod enc P W 0 (fun _ => true) true n e cs' = some (D i, Pl i) ∧ ∀ j, j < size → W.cell? (a.add (i * size + j)) = cs'[j]? := by
      intro i him
      obtain ⟨cs', hc, htr⟩ := hi i him
      obtain ⟨_, hcl, hat⟩ := World.cells?_some hc
      rw [hC] at hcl hat
      refine ⟨cs', hcl, htr, fun j hj => ?_⟩
      rw [← hat j hj]
      congr 1
      unfold Addr.add
      by_cases h1 : i * size = 0 <;> by_cases h2 : j = 0 <;> simp [h1, h2, Nat.add_assoc]
    refine ⟨some a, len0, m, (List.range (len0 * size)).map fun j => (W.cell? (a.add j)).getD undef, hcs, hl, hm, ⟨by simp, fun hn => ⟨a, rfl, ?_, ?_⟩⟩, ?_, ?_⟩
    · refine hlt (.cell a.block (a.off + 0)) ?_
      rw [hp]
      refine List.mem_append_left _ (MemPlace.mem_row.2 ⟨0, ?_, rfl⟩)
      rw [hC]; exact Nat.mul_pos (by omega) hsz
    · intro j u hu
      obtain ⟨hj, hu⟩ := List.getElem?_eq_some_iff.1 hu
      have hj' : j < len0 * size := by simpa using hj
      have hdm := Nat.div_add_mod j size
      have hq : j / size < len0 := Nat.div_lt_of_lt_mul (by rw [Nat.mul_comm]; exact hj')
      obtain ⟨cs', hcl, _, hat⟩ := hcell (j / size) (by omega)
      have hat := hat (j % size) (Nat.mod_lt _ hsz)
      rw [Nat.mul_comm, hdm] at hat
      have : (cs'[j % size]?).isSome := by simp [hcl, Nat.mod_lt _ hsz]
      rw [← hat] at this
      obtain ⟨y, hy⟩ := Option.isSome_iff_exists.1 this
      simp only [List.getElem_map, List.getElem_range, hy, Option.getD_some] at hu
      rw [hy, hu]
    · intro B hB
      refine Nat.le_trans (Nat.mul_le_mul_right _ ?_) (hB ((len0 + (m - len0)) * P.bytesOf e) (by rw [hd]; simp [DataW.weights, ht]))
      omega
    · intro i hin
      have hm0 : i < m := by omega
      obtain ⟨cs', hcl, htr, hat⟩ := hcell i hm0
      refine ⟨n, D i, Pl i, ?_, fun x hx => ?_, fun q hq => ?_⟩
      · have this : (((List.range (len0 * size)).map fun j => (W.cell? (a.add j)).getD undef).drop (i * size)).take size = cs' := by
          apply List.ext_getElem
          · have : (i + 1) * size ≤ len0 * size := Nat.mul_le_mul_right _ hin
            rw [Nat.succ_mul] at this
            simp [hcl]; omega
          · intro j h1 h2
            simp only [List.getElem_take, List.getElem_drop, List.getElem_map, List.getElem_range]
            rw [hat j (by omega), List.getElem?_eq_getElem h2]; rfl
        rw [this]; exact htr
      · rw [hp]; exact List.mem_append_right _ (List.mem_flatMap.2 ⟨i, List.mem_range.2 hm0, hx⟩)
      · rw [hd]
        simp only [DataW.weights, ht, List.mem_cons, List.mem_append]
        exact .inr (.inl (weights_all hq _ (List.mem_map.2 ⟨i, List.mem_range.2 hin, rfl⟩)))
/-- a slice of integers that is read -/
theorem open_ints_cells {t e : TypeId} {k : IntKind} {fuel : Nat} {W : World} {cs : List Value} {d : DataW H} {p : List MemPlace} (ht : P.underlying t = some (.slice e)) (he : P.underlying e = some (.int k)) (hC : P.cellsOf e = 1) (hBy : P.bytesOf e = 1)
    (h : DataW.trod enc P W 0 (fun _ => true) true fuel t cs = some (d, p)) (hlt : ∀ x ∈ p, x.block < W.heap.size) :
    ∃ (A : Option Addr) (cap : Nat) (zs : List Int), cs = [.slice A zs.length cap] ∧ zs.length ≤ cap ∧ cap ≤ maxLen ∧ Reads W W.heap.size 1 A zs.length (zs.map (.int k)) ∧ (∀ z ∈ zs, (Lit.int k z).wf = true) ∧ ∀ B, (∀ q ∈ d.weights P t, q ≤ B) → zs.length ≤ B := by
  obtain ⟨A, n, cap, xs, rfl, h1, h2, h3, hB, h4⟩ := open_cells ht hC (by omega) h hlt
  have hl : xs.length = n := by have := h3.1; omega
  have key : ∀ i, i < n → ∃ z, xs[i]? = some (.int k z) ∧ (Lit.int k z).wf = true := by
    intro i hi
    obtain ⟨fuel, D, Pl, htr, _⟩ := h4 i hi
    obtain ⟨z, hz, _, hw⟩ := DataW.trod_int he htr
    refine ⟨z, ?_, hw⟩
    have := congrArg (·[0]?) hz
    simpa [List.getElem?_take, List.getElem?_drop] using this
  let zs := xs.map fun | .int _ z => z | _ => 0
  have hzl : zs.length = n := by simp [zs, hl]
  have hxs : xs = zs.map (.int k) := by
    apply List.ext_getElem?
    intro i
    simp only [zs, List.map_map, List.getElem?_map]
    rcases Nat.lt_or_ge i n with hi | hi
    · obtain ⟨z, hz, _⟩ := key i hi
      rw [hz]; rfl
    · rw [List.getElem?_eq_none (by omega)]; rfl
  refine ⟨A, cap, zs, by rw [hzl], by omega, h2, by rw [hzl, ← hxs]; exact h3, fun z hz => ?_, fun B hb => by have := hB B hb; rw [hBy] at this; omega⟩
  obtain ⟨i, hi, rfl⟩ := List.getElem_of_mem hz
  obtain ⟨z, hz', hw⟩ := key i (by omega)
  have : zs[i]? = some z := by simp only [zs, List.getElem?_map, hz']; rfl
  rw [List.getElem?_eq_getElem hi] at this
  injection this with this
  rw [this]; exact hw
/-- an argument that is a slice of slices of bytes -/
theorem open_rows {r0 : Reach} {b0 : Nat} {t te e : TypeId} {k : IntKind} {W : World} {v : Value} {d : DataW H} {p : List MemPlace} (ht : P.underlying t = some (.slice te)) (hte : P.underlying te = some (.slice e)) (he : P.underlying e = some (.int k))
    (hCt : P.cellsOf te = 1) (hC : P.cellsOf e = 1) (hBy : P.bytesOf e = 1) (hv : Value.okWide P W r0 b0 t v) (h : DataW.Trod enc P W 0 (fun _ => true) true t v d p) (hlt : ∀ x ∈ p, x.block < W.heap.size) :
    ∃ (A : Option Addr) (n cap : Nat) (xs : List Value), v = .slice A n cap ∧ n ≤ cap ∧ cap ≤ maxLen ∧ Reads W W.heap.size 1 A n xs ∧ ∀ B, (∀ q ∈ d.weights P t, q ≤ B) → n * P.bytesOf te ≤ B ∧
      ∀ i, i < n → ∃ A' cap' bs, xs[i]? = some (.slice A' (List.length bs) cap') ∧ bs.length ≤ cap' ∧ cap' ≤ maxLen ∧ Reads W W.heap.size 1 A' bs.length (bs.map (.int k)) ∧ (∀ b ∈ bs, (Lit.int k b).wf = true) ∧ bs.length ≤ B := by
  obtain ⟨a0, len0, cap0, rfl⟩ := okWide_slice ht hv
  obtain ⟨fuel, hf⟩ := h
  obtain ⟨A, n, cap, xs, hcs, h1, h2, h3, hB, h4⟩ := open_cells ht hCt (by omega) hf hlt
  have hcs' : [Value.slice a0 len0 cap0] = [.slice A n cap] := by simpa [Value.cells] using hcs
  have hve : Value.slice a0 len0 cap0 = .slice A n cap := by simpa using hcs'
  refine ⟨A, n, cap, xs, hve, h1, h2, h3, fun B hb => ⟨hB B hb, fun i hi => ?_⟩⟩
  obtain ⟨fuel, D, Pl, htr, hpl, hw⟩ := h4 i hi
  obtain ⟨A', cap', bs, hcs2, j1, j2, j3, j4, j5⟩ := open_ints_cells hte he hC hBy htr (fun x hx => hlt x (hpl x hx))
  refine ⟨A', cap', bs, ?_, j1, j2, j3, j4, j5 B (fun q hq => hb q (hw q hq))⟩
  have := congrArg (·[0]?) hcs2
  simpa [List.getElem?_take, List.getElem?_drop] using this
/-- what a sized argument weighs -/
theorem sized_weights {ts : List TypeId} {ds : List (DataW H)} {j : Nat} {t : TypeId} {d : DataW H} (hts : ts[j]? = some t) (hds : ds[j]? = some d) (hsz : (DataW.weightsEach P ts ds).all (· ≤ reachBytes) = true) : ∀ q ∈ d.weights P t, q ≤ 140737488351232 := by
  intro q hq
  have := List.all_eq_true.1 hsz _ (DataW.weights_mem_each hts hds q hq)
  have h : q ≤ reachBytes := by simpa using this
  exact h
end
end Go.Proofs.Ytpknabblllighaa
