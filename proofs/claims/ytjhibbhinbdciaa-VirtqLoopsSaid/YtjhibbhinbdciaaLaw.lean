import Derived.Test.YtjhibbhinbdciaaRows
import Derived.Test.YtjhibbhinbdciaaBase
import Derived.OpenShut
import Derived.ChangeSame
import Derived.Deep.Slices
/- What takes a law's walk to its row: nothing that was there has turned, so every argument reads as it did. -/
namespace Go.Proofs.Ytjhibbhinbdciaa
set_option linter.unusedVariables false
open Go.ChangeShapes Go.WideShapes Go.ChangeAt Go.RowKit

theorem bd_u64 {z : Int} (h : (Lit.int .u64 z).wf = true) : 0 ≤ z ∧ z < 18446744073709551616 := by
  have : 0 ≤ z ∧ z ≤ 18446744073709551615 := by simpa [Lit.wf, IntKind.min, IntKind.max, IntKind.signed, IntKind.bits] using h
  omega
theorem bd_i64 {z : Int} (h : (Lit.int .i64 z).wf = true) : -9223372036854775808 ≤ z ∧ z ≤ 9223372036854775807 := by
  simpa [Lit.wf, IntKind.min, IntKind.max, IntKind.signed, IntKind.bits] using h
theorem bd_u8 {z : Int} (h : (Lit.int .u8 z).wf = true) : 0 ≤ z ∧ z < 256 := by
  have : 0 ≤ z ∧ z ≤ 255 := by simpa [Lit.wf, IntKind.min, IntKind.max, IntKind.signed, IntKind.bits] using h
  omega
section
variable {H : Type} {enc : TypeId × Value → H} {P : Program}
theorem trodAll_stays (hl : laidOutB P = true) {W W' : World} (hb : Below W.heap.size W W') {sp : Nat → Bool} :
    ∀ (ts : List TypeId) (vs : List Value) (ds : List (DataW H)) (ps : List MemPlace), (∀ t ∈ ts, P.readableRec t = true ∧ t < P.types.size) →
      DataW.TrodAll enc P W 0 (fun _ => true) true ts vs ds ps → (∀ x ∈ ps, x.block < W.heap.size) → (∀ x ∈ ps, sp x.block = true) → DataW.TrodAll enc P W' 0 sp true ts vs ds ps := by
  intro ts
  induction ts with
  | nil =>
    intro vs ds ps _ h _ _
    obtain ⟨rfl, rfl, rfl⟩ := trodAll_nil h
    exact trodAll_mk0
  | cons t ts ih =>
    intro vs ds ps ht h hlt hsp
    obtain ⟨v, vs', d, ds', p, q, rfl, rfl, rfl, h0, h1⟩ := trodAll_cons h
    refine trodAll_cons_mk ?_ (ih vs' ds' q (fun t h => ht t (List.mem_cons_of_mem _ h)) h1 (fun x hx => hlt x (List.mem_append_right _ hx)) (fun x hx => hsp x (List.mem_append_right _ hx)))
    obtain ⟨hr, hrow⟩ := ht t List.mem_cons_self
    exact WideElems.Trod_stays hl hr hrow h0 (fun x hx => hb.same (hlt x (List.mem_append_left _ hx))) (fun x hx => hsp x (List.mem_append_left _ hx))

/-- a law's row: it answered true, and nothing that was there has turned -/
theorem law_post {f : Func} {s : ChangeSpec} {W W' : World} {args : Array Value} {ds : List (DataW H)} {before : List MemPlace} {tb : TypeId} (hl : laidOutB P = true)
    (hta : (f.params.toList.all fun t => P.readableRec t && decide (t < P.types.size)) = true) (hres : f.resultTypes = #[tb]) (htb : P.underlying tb = some .bool) (hvars : s.vars = [])
    (hs : s.fn H (ds ++ []) = { results := [.lit (.bool true)], args := ds })
    (hW : DataW.Whole enc P f.params.toList s.vars false W args.toList ds [] before) (hb : Below W.heap.size W W') :
    s.post enc P f false true false false W args (.bool true) W' := by
  have ht : ∀ t ∈ f.params.toList, P.readableRec t = true ∧ t < P.types.size := fun t h => by simpa using List.all_eq_true.1 hta t h
  have hlt : ∀ p ∈ before, p.block < W.heap.size := fun p hp => hW.lt p hp
  have hold : ∀ p ∈ before, (fun b => decide (b < W.heap.size)) p.block = true := fun p hp => by simpa using hlt p hp
  have hW' := hW
  obtain ⟨p, q, hA0, hV, hpq, hfz, hnd⟩ := hW
  have hA : DataW.TrodAll enc P W 0 (fun _ => true) true f.params.toList args.toList ds p := hA0
  rw [hvars] at hV
  obtain ⟨_, rfl⟩ := trodVars_none hV
  rw [List.append_nil] at hpq
  subst hpq
  have hargs : ∀ sp : Nat → Bool, (∀ x ∈ before, sp x.block = true) → DataW.TrodAll enc P W' 0 sp true f.params.toList args.toList (s.fn H (ds ++ [])).args before :=
    fun sp hsp => by rw [hs]; exact trodAll_stays hl hb _ _ _ _ ht hA hlt hsp
  have hresults : ∀ (b : Nat) (sp : Nat → Bool) (hd : Bool), DataW.TrodAll enc P W' b sp hd f.resultTypes.toList ((Value.bool true).resultList f.resultTypes.size) (s.fn H (ds ++ [])).results [] :=
    fun b sp hd => by rw [hs, hres]; exact trodAll_cons_mk (shut_bool htb _) trodAll_mk0
  have hvarsW : ∀ sp : Nat → Bool, DataW.TrodVars enc P W' sp s.vars (s.fn H (ds ++ [])).vars [] := fun sp => by rw [hvars, hs]; rfl
  refine ⟨ds, [], before, [], before, [], hW', hresults _ _ _, hargs _ hold, hvarsW _, World.keptBut_mono (fun x hx => ⟨hx, ?_⟩) (hb.frame (· ∈ before)), fun _ => ?_⟩
  · exact Or.inr (by simpa using hx)
  · refine ⟨ok_one hres rfl (okWide_bool_mk htb _), _, _, ([] ++ before) ++ [], ⟨[] ++ before, [], trodAll_append (hargs _ (fun _ _ => rfl)) (hresults _ _ _), hvarsW _, rfl, ?_, ?_⟩, ?_⟩
    · intro b off hp
      have hin : MemPlace.cell b off ∈ before := by simpa using hp
      rw [hb.frozen (hlt _ hin)]
      exact hfz b off hin
    · intro ha; cases ha
    · intro p hp _
      simpa using hp
end

section
variable {H : Type} {enc : TypeId × Value → H} {P : Program}
/-- an argument that is a slice: its cells, and each element's own reading -/
theorem open_elems {r0 : Reach} {b0 : Nat} {t e : TypeId} {size : Nat} {W : World} {v : Value} {d : DataW H} {p : List MemPlace} (ht : P.underlying t = some (.slice e)) (hC : P.cellsOf e = size) (hsz : 0 < size)
    (hv : Value.okWide P W r0 b0 t v) (h : DataW.Trod enc P W 0 (fun _ => true) true t v d p) (hlt : ∀ x ∈ p, x.block < W.heap.size) :
    ∃ (A : Option Addr) (n cap : Nat) (xs : List Value), v = .slice A n cap ∧ n ≤ cap ∧ cap ≤ maxLen ∧ Reads W W.heap.size size A n xs ∧
      ∀ i, i < n → ∃ (fuel : Nat) (D : DataW H) (Pl : List MemPlace), DataW.trod enc P W 0 (fun _ => true) true fuel e ((xs.drop (i * size)).take size) = some (D, Pl) ∧ ∀ x ∈ Pl, x ∈ p := by
  obtain ⟨a0, len0, cap0, rfl⟩ := okWide_slice ht hv
  obtain ⟨fuel, hf⟩ := h
  rcases Go.Deep.open_slice ht hf with ⟨hcs, hx⟩ | ⟨a, len, cap, m, n, D, Pl, hcs, hb, hl, hm, hmm, hx, hi⟩
  · simp only [Value.cells, List.cons.injEq, and_true] at hcs
    cases hcs
    exact ⟨none, 0, 0, [], rfl, Nat.le_refl _, by simp [maxLen], ⟨by simp, fun h => absurd h (by omega)⟩, fun i hi => absurd hi (by omega)⟩
  · simp only [Value.cells, List.cons.injEq, and_true] at hcs
    cases hcs
    simp only [if_true] at hmm
    subst hmm
    have hp : p = MemPlace.row a (m * P.cellsOf e) ++ (List.range m).flatMap Pl := (Prod.mk.injEq _ _ _ _ ▸ hx : _ ∧ _).2
    have hcell : ∀ i, i < m → ∃ cs', cs'.length = size ∧ DataW.trod enc P W 0 (fun _ => true) true n e cs' = some (D i, Pl i) ∧ ∀ j, j < size → W.cell? (a.add (i * size + j)) = cs'[j]? := by
      intro i him
      obtain ⟨cs', hc, htr⟩ := hi i him
      obtain ⟨_, hcl, hat⟩ := World.cells?_some hc
      rw [hC] at hcl hat
      refine ⟨cs', hcl, htr, fun j hj => ?_⟩
      rw [← hat j hj]
      congr 1
      unfold Addr.add
      by_cases h1 : i * size = 0 <;> by_cases h2 : j = 0 <;> simp [h1, h2, Nat.add_assoc]
    refine ⟨some a, len0, m, (List.range (len0 * size)).map fun j => (W.cell? (a.add j)).getD undef, rfl, hl, hm, ⟨by simp, fun hn => ⟨a, rfl, ?_, ?_⟩⟩, ?_⟩
    · refine hlt (.cell a.block (a.off + 0)) ?_
      rw [hp]
      refine List.mem_append_left _ (MemPlace.mem_row.2 ⟨0, ?_, rfl⟩)
      rw [hC]; exact Nat.mul_pos (by omega) hsz
    · intro j u hu
      obtain ⟨hj, hu⟩ := List.getElem?_eq_some_iff.1 hu
      have hj' : j < len0 * size := by simpa using hj
      have hdm := Nat.div_add_mod j size
      have hq : j / size < len0 := Nat.div_lt_of_lt_mul (by rw [Nat.mul_comm]; exact hj')
      obtain ⟨cs', hcl, _, hat⟩ := hcell (j / size) (by omega)
      have hat := hat (j % size) (Nat.mod_lt _ hsz)
      rw [Nat.mul_comm, hdm] at hat
      have : (cs'[j % size]?).isSome := by simp [hcl, Nat.mod_lt _ hsz]
      rw [← hat] at this
      obtain ⟨y, hy⟩ := Option.isSome_iff_exists.1 this
      simp only [List.getElem_map, List.getElem_range, hy, Option.getD_some] at hu
      rw [hy, hu]
    · intro i hin
      have hm0 : i < m := by omega
      obtain ⟨cs', hcl, htr, hat⟩ := hcell i hm0
      refine ⟨n, D i, Pl i, ?_, fun x hx => ?_⟩
      · have this : (((List.range (len0 * size)).map fun j => (W.cell? (a.add j)).getD undef).drop (i * size)).take size = cs' := by
          apply List.ext_getElem
          · have : (i + 1) * size ≤ len0 * size := Nat.mul_le_mul_right _ hin
            rw [Nat.succ_mul] at this
            simp [hcl]; omega
          · intro j h1 h2
            simp only [List.getElem_take, List.getElem_drop, List.getElem_map, List.getElem_range]
            rw [hat j (by omega), List.getElem?_eq_getElem h2]; rfl
        rw [this]; exact htr
      · rw [hp]; exact List.mem_append_right _ (List.mem_flatMap.2 ⟨i, List.mem_range.2 hm0, hx⟩)

/-- an argument that is a slice of integers -/
theorem open_ints_arg {r0 : Reach} {b0 : Nat} {t e : TypeId} {k : IntKind} {W : World} {v : Value} {d : DataW H} {p : List MemPlace} (ht : P.underlying t = some (.slice e)) (he : P.underlying e = some (.int k)) (hC : P.cellsOf e = 1)
    (hv : Value.okWide P W r0 b0 t v) (h : DataW.Trod enc P W 0 (fun _ => true) true t v d p) (hlt : ∀ x ∈ p, x.block < W.heap.size) :
    ∃ (A : Option Addr) (cap : Nat) (zs : List Int), v = .slice A zs.length cap ∧ zs.length ≤ cap ∧ cap ≤ maxLen ∧ Reads W W.heap.size 1 A zs.length (zs.map (.int k)) ∧ ∀ z ∈ zs, (Lit.int k z).wf = true := by
  obtain ⟨A, n, cap, xs, rfl, h1, h2, h3, h4⟩ := open_elems ht hC (by omega) hv h hlt
  have hl : xs.length = n := by have := h3.1; omega
  have key : ∀ i, i < n → ∃ z, xs[i]? = some (.int k z) ∧ (Lit.int k z).wf = true := by
    intro i hi
    obtain ⟨fuel, D, Pl, htr, _⟩ := h4 i hi
    obtain ⟨z, hz, _, hw⟩ := DataW.trod_int he htr
    refine ⟨z, ?_, hw⟩
    have := congrArg (·[0]?) hz
    simpa [List.getElem?_take, List.getElem?_drop] using this
  let zs := xs.map fun | .int _ z => z | _ => 0
  have hzl : zs.length = n := by simp [zs, hl]
  have hxs : xs = zs.map (.int k) := by
    apply List.ext_getElem?
    intro i
    simp only [zs, List.map_map, List.getElem?_map]
    rcases Nat.lt_or_ge i n with hi | hi
    · obtain ⟨z, hz, _⟩ := key i hi
      rw [hz]; rfl
    · rw [List.getElem?_eq_none (by omega)]; rfl
  refine ⟨A, cap, zs, by rw [hzl], by omega, h2, by rw [hzl, ← hxs]; exact h3, fun z hz => ?_⟩
  obtain ⟨i, hi, rfl⟩ := List.getElem_of_mem hz
  obtain ⟨z, hz', hw⟩ := key i (by omega)
  have : zs[i]? = some z := by simp only [zs, List.getElem?_map, hz']; rfl
  rw [List.getElem?_eq_getElem hi] at this
  injection this with this
  rw [this]; exact hw
/-- an argument that is a slice of bools -/
theorem open_bools_arg {r0 : Reach} {b0 : Nat} {t e : TypeId} {W : World} {v : Value} {d : DataW H} {p : List MemPlace} (ht : P.underlying t = some (.slice e)) (he : P.underlying e = some .bool) (hC : P.cellsOf e = 1)
    (hv : Value.okWide P W r0 b0 t v) (h : DataW.Trod enc P W 0 (fun _ => true) true t v d p) (hlt : ∀ x ∈ p, x.block < W.heap.size) :
    ∃ (A : Option Addr) (cap : Nat) (zs : List Bool), v = .slice A zs.length cap ∧ zs.length ≤ cap ∧ cap ≤ maxLen ∧ Reads W W.heap.size 1 A zs.length (zs.map .bool) := by
  obtain ⟨A, n, cap, xs, rfl, h1, h2, h3, h4⟩ := open_elems ht hC (by omega) hv h hlt
  have hl : xs.length = n := by have := h3.1; omega
  have key : ∀ i, i < n → ∃ z, xs[i]? = some (.bool z) := by
    intro i hi
    obtain ⟨fuel, D, Pl, htr, _⟩ := h4 i hi
    obtain ⟨z, hz, _⟩ := DataW.trod_bool he htr
    refine ⟨z, ?_⟩
    have := congrArg (·[0]?) hz
    simpa [List.getElem?_take, List.getElem?_drop] using this
  let zs := xs.map fun | .bool z => z | _ => false
  have hzl : zs.length = n := by simp [zs, hl]
  have hxs : xs = zs.map .bool := by
    apply List.ext_getElem?
    intro i
    simp only [zs, List.map_map, List.getElem?_map]
    rcases Nat.lt_or_ge i n with hi | hi
    · obtain ⟨z, hz⟩ := key i hi
      rw [hz]; rfl
    · rw [List.getElem?_eq_none (by omega)]; rfl
  exact ⟨A, cap, zs, by rw [hzl], by omega, h2, by rw [hzl, ← hxs]; exact h3⟩
end
end Go.Proofs.Ytjhibbhinbdciaa
