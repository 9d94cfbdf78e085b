import Derived.Test.YtibhialnaibkjaaRows
import Derived.Test.YtibhialnaibkjaaBase
import Derived.OpenShut
import Derived.ChangeSame
/- What takes a law's walk to its row: nothing that was there has turned, so every argument reads as it did. -/
namespace Go.Proofs.Ytibhialnaibkjaa
set_option linter.unusedVariables false
open Go.ChangeShapes Go.WideShapes Go.ChangeAt Go.RowKit

section
variable {H : Type} {enc : TypeId × Value → H} {P : Program}
theorem trodAll_stays (hl : laidOutB P = true) {W W' : World} (hb : Below W.heap.size W W') {sp : Nat → Bool} :
    ∀ (ts : List TypeId) (vs : List Value) (ds : List (DataW H)) (ps : List MemPlace), (∀ t ∈ ts, P.readableRec t = true ∧ t < P.types.size) →
      DataW.TrodAll enc P W 0 (fun _ => true) true ts vs ds ps → (∀ x ∈ ps, x.block < W.heap.size) → (∀ x ∈ ps, sp x.block = true) → DataW.TrodAll enc P W' 0 sp true ts vs ds ps := by
  intro ts
  induction ts with
  | nil =>
    intro vs ds ps _ h _ _
    obtain ⟨rfl, rfl, rfl⟩ := trodAll_nil h
    exact trodAll_mk0
  | cons t ts ih =>
    intro vs ds ps ht h hlt hsp
    obtain ⟨v, vs', d, ds', p, q, rfl, rfl, rfl, h0, h1⟩ := trodAll_cons h
    refine trodAll_cons_mk ?_ (ih vs' ds' q (fun t h => ht t (List.mem_cons_of_mem _ h)) h1 (fun x hx => hlt x (List.mem_append_right _ hx)) (fun x hx => hsp x (List.mem_append_right _ hx)))
    obtain ⟨hr, hrow⟩ := ht t List.mem_cons_self
    exact WideElems.Trod_stays hl hr hrow h0 (fun x hx => hb.same (hlt x (List.mem_append_left _ hx))) (fun x hx => hsp x (List.mem_append_left _ hx))

/-- a law's row: it answered true, and nothing that was there has turned -/
theorem law_post {f : Func} {s : ChangeSpec} {W W' : World} {args : Array Value} {ds : List (DataW H)} {before : List MemPlace} {tb : TypeId} (hl : laidOutB P = true)
    (hta : (f.params.toList.all fun t => P.readableRec t && decide (t < P.types.size)) = true) (hres : f.resultTypes = #[tb]) (htb : P.underlying tb = some .bool) (hvars : s.vars = [])
    (hs : s.fn H (ds ++ []) = { results := [.lit (.bool true)], args := ds })
    (hW : DataW.Whole enc P f.params.toList s.vars false W args.toList ds [] before) (hb : Below W.heap.size W W') :
    s.post enc P f false true false false W args (.bool true) W' := by
  have ht : ∀ t ∈ f.params.toList, P.readableRec t = true ∧ t < P.types.size := fun t h => by simpa using List.all_eq_true.1 hta t h
  have hlt : ∀ p ∈ before, p.block < W.heap.size := fun p hp => hW.lt p hp
  have hold : ∀ p ∈ before, (fun b => decide (b < W.heap.size)) p.block = true := fun p hp => by simpa using hlt p hp
  have hW' := hW
  obtain ⟨p, q, hA0, hV, hpq, hfz, hnd⟩ := hW
  have hA : DataW.TrodAll enc P W 0 (fun _ => true) true f.params.toList args.toList ds p := hA0
  rw [hvars] at hV
  obtain ⟨_, rfl⟩ := trodVars_none hV
  rw [List.append_nil] at hpq
  subst hpq
  have hargs : ∀ sp : Nat → Bool, (∀ x ∈ before, sp x.block = true) → DataW.TrodAll enc P W' 0 sp true f.params.toList args.toList (s.fn H (ds ++ [])).args before :=
    fun sp hsp => by rw [hs]; exact trodAll_stays hl hb _ _ _ _ ht hA hlt hsp
  have hresults : ∀ (b : Nat) (sp : Nat → Bool) (hd : Bool), DataW.TrodAll enc P W' b sp hd f.resultTypes.toList ((Value.bool true).resultList f.resultTypes.size) (s.fn H (ds ++ [])).results [] :=
    fun b sp hd => by rw [hs, hres]; exact trodAll_cons_mk (shut_bool htb _) trodAll_mk0
  have hvarsW : ∀ sp : Nat → Bool, DataW.TrodVars enc P W' sp s.vars (s.fn H (ds ++ [])).vars [] := fun sp => by rw [hvars, hs]; rfl
  refine ⟨ds, [], before, [], before, [], hW', hresults _ _ _, hargs _ hold, hvarsW _, World.keptBut_mono (fun x hx => ⟨hx, ?_⟩) (hb.frame (· ∈ before)), fun _ => ?_⟩
  · exact Or.inr (by simpa using hx)
  · refine ⟨ok_one hres rfl (okWide_bool_mk htb _), _, _, ([] ++ before) ++ [], ⟨[] ++ before, [], trodAll_append (hargs _ (fun _ _ => rfl)) (hresults _ _ _), hvarsW _, rfl, ?_, ?_⟩, ?_⟩
    · intro b off hp
      have hin : MemPlace.cell b off ∈ before := by simpa using hp
      rw [hb.frozen (hlt _ hin)]
      exact hfz b off hin
    · intro ha; cases ha
    · intro p hp _
      simpa using hp
end
end Go.Proofs.Ytibhialnaibkjaa
