import Derived.Test.YtpknabblllighaaVa
import Derived.Laws.CopyOwn
/- VirtdevLearns: what a switch comes to; copy into a block. -/
namespace Go.Proofs.Ytpknabblllighaa
set_option linter.unusedVariables false
set_option linter.unusedSimpArgs false
open Go.RowKit Go.Maps
set_option maxRecDepth 100000
/-- copy into the beginning of a block -/
theorem wp_copyB {P : Program} {a : Act} {w : World} {o : Oper} {K : Act → World → Prop} {Q : Exit → Act → World → Prop} (d s : Operand) (dT sT : TypeId) (ho : o.op = .call { callee := .builtin .copy, args := #[d, s], argTypes := #[dT, sT] })
    (elem : TypeId) (hu : P.underlying dT = some (.slice elem)) (hsz : (P.info? elem).map (·.size) = some 1) (g dLen dCap gs os sLen sCap : Nat) (hd : a.eval d = .slice (some ⟨g, 0, none⟩) dLen dCap) (hs : a.eval s = .slice (some ⟨gs, os, none⟩) sLen sCap)
    (cur : Array Value) (t : TypeId) (hg : Blk w g t cur) (cs : List Value) (hn : cs.length = Nat.min sLen dLen) (hsrc : w.rangeAt gs os cs) (hfit : cs.length ≤ cur.size) (h1 : ∀ v ∈ cs, v.oneCell' = true)
    (h : ∀ w', Blk w' g t (cs ++ cur.toList.drop cs.length).toArray → Upd (· = g) w w' → K (a.put o.dst (goInt cs.length)) w') : o.wp P a w K Q := by
  have hrun := run_copy_row (P := P) w dT sT o.type elem g 0 dLen dCap ⟨gs, os, none⟩ sLen sCap cur t cs hu hsz hg hn (fun j v hv => by rw [Addr.add_mid]; exact hsrc j v hv) (by omega) h1
  unfold Oper.wp
  simp [execOp, ho, resolve, invoke, builtin, hd, hs, hrun, Result.andThen]
  refine h _ ?_ ((Upd.refl (fun x => x = g) _).setRow (g := g) (.inl rfl) _)
  have := hg.setRow (cs ++ cur.toList.drop cs.length).toArray
  simpa using this
def frA (m : Int) : List Int := [2, m, 0, 0, 0, 0]
def frB (n : Int) : List Int := [4, n, 0, 0, 0, 0]
def oneL (m n : Int) : List Int := [4, n, 0, 0, 0, 0, 2, m, 0, 0, 0, 0, 0, 0, 0, 0, 0, 0, 0, 0]
def twoL (m n : Int) : List Int := [2, m, 0, 0, 0, 0, 4, n, 0, 0, 0, 0, 0, 0, 0, 0, 0, 0, 0, 0]
def u8L (l : List Int) : List Value := l.map (fun b => Value.int .u8 b)
def halfL (h m : Int) : List Int := [0, 0, 0, 0, 0, 0, h, m, 0, 0, 0, 0, 0, 0, 0, 0, 0, 0, 0, 0]
theorem half_set (h m : Int) : ((Array.replicate 20 (Value.int .u8 0)).setIfInBounds 6 (.int .u8 h)).setIfInBounds 7 (.int .u8 m) = (u8L (halfL h m)).toArray := by kernel_rfl
theorem half_two (m n : Int) : (u8L (frA m) ++ (u8L (halfL 4 n)).toArray.toList.drop (u8L (frA m)).length).toArray = (u8L (twoL m n)).toArray := by kernel_rfl
theorem half_one (m n : Int) : (u8L (frB n) ++ (u8L (halfL 2 m)).toArray.toList.drop (u8L (frB n)).length).toArray = (u8L (oneL m n)).toArray := by kernel_rfl
theorem mid_half {w : World} {b : Nat} {t : TypeId} {m : Int} (h : Blk w b t (u8L (halfL 2 m)).toArray) : w.rangeAt b 6 (u8L (frA m)) := by
  have := World.rangeAt_of_block h 6 6
  rwa [show ((u8L (halfL 2 m)).toArray.extract 6 (6 + 6)).toList = u8L (frA m) from by kernel_rfl] at this
theorem mid_two {w : World} {b : Nat} {t : TypeId} {m n : Int} (h : Blk w b t (u8L (twoL m n)).toArray) : w.rangeAt b 6 (u8L (frB n)) := by
  have := World.rangeAt_of_block h 6 6
  rwa [show ((u8L (twoL m n)).toArray.extract 6 (6 + 6)).toList = u8L (frB n) from by kernel_rfl] at this
theorem u8L_one (l : List Int) : ∀ v ∈ u8L l, v.oneCell' = true := fun v hv => by
  obtain ⟨q, _, rfl⟩ := List.mem_map.1 hv
  rfl
theorem frAB (m n : Int) : frA m ≠ frB n := fun h => by have := List.head_eq_of_cons_eq h; cases this
def sA (m : Int) (x : Nat) : Sw := ⟨fun k => if k = frA m then some x else none, 1⟩
def sB (m n : Int) (x y : Nat) : Sw := ⟨fun k => if k = frB n then some y else if k = frA m then some x else none, 2⟩
theorem sA_B (m n : Int) (x : Nat) : (sA m x).kn (frB n) = none := by
  show (if frB n = frA m then some x else none) = none
  rw [if_neg (fun h => frAB m n h.symm)]
theorem learnA (m : Int) (x : Nat) : learnS sw0 x (frA m) 2 = sA m x := by
  unfold learnS
  rw [if_pos ⟨by decide, .inr (by decide)⟩]
  rfl
theorem learnB (m n : Int) (x y : Nat) : learnS (sA m x) y (frB n) 4 = sB m n x y := by
  have h := sA_B m n x
  unfold learnS
  rw [if_pos ⟨by decide, .inr (by show 1 < 32; decide)⟩, h]
  rfl
theorem learnA' (m n : Int) (x y : Nat) : learnS (sB m n x y) x (frA m) 2 = sB m n x y := by
  have h : (sB m n x y).kn (frA m) = some x := by show (if frA m = frB n then some y else if frA m = frA m then some x else none) = some x; rw [if_neg (frAB m n), if_pos rfl]
  unfold learnS
  rw [if_pos ⟨by decide, .inr (by show 2 < 32; decide)⟩, h]
  unfold sB
  refine Sw.mk.injEq _ _ _ _ |>.mpr ⟨funext fun k => ?_, rfl⟩
  show (if k = frA m then some x else if k = frB n then some y else if k = frA m then some x else none) = _
  by_cases e : k = frA m
  · subst e; rw [if_pos rfl, if_neg (frAB m n), if_pos rfl]
  · rw [if_neg e]
theorem sB_A (m n : Int) (x y : Nat) : (sB m n x y).kn (frA m) = some x := by show (if frA m = frB n then some y else if frA m = frA m then some x else none) = some x; rw [if_neg (frAB m n), if_pos rfl]
theorem sB_B (m n : Int) (x y : Nat) : (sB m n x y).kn (frB n) = some y := by show (if frB n = frB n then some y else _) = some y; rw [if_pos rfl]
theorem sB_n (m n : Int) (x y : Nat) : (sB m n x y).n = 2 := rfl
theorem sA_bd (m : Int) (x : Nat) (hx : x < 1000) : ∀ k q, (sA m x).kn k = some q → q < 1000 := by
  intro k q h
  change (if k = frA m then some x else none) = some q at h
  split at h
  · cases h; exact hx
  · cases h
theorem sB_bd (m n : Int) (x y : Nat) (hx : x < 1000) (hy : y < 1000) : ∀ k q, (sB m n x y).kn k = some q → q < 1000 := by
  intro k q h
  change (if k = frB n then some y else if k = frA m then some x else none) = some q at h
  split at h
  · cases h; exact hy
  · split at h
    · cases h; exact hx
    · cases h
theorem out_none_len : ∀ k : Fin 9, ∀ x : Fin 9, x < k → (outS k x none).length = k - 1 := by decide
theorem out_some : ∀ k : Fin 9, ∀ x : Fin 9, ∀ y : Fin 9, x < k → outS k y (some x.val) = if x = y then [] else [x.val] := by decide +kernel
theorem out_at {k x : Nat} {i p : Nat} (h : (outS k x none)[i]? = some p) : p ≠ x ∧ p < k := by
  have := List.mem_of_getElem? h
  unfold outS at this
  rw [List.mem_filter] at this
  simpa [List.mem_range, and_comm] using this
theorem out_lt {k x : Nat} {i p q : Nat} (h : (outS k x none)[i]? = some p) (h' : (outS k x none)[i + 1]? = some q) : p < q := by
  have hp : (outS k x none).Pairwise (· < ·) := (List.pairwise_lt_range).filter _
  obtain ⟨h1, rfl⟩ := List.getElem?_eq_some_iff.1 h
  obtain ⟨h2, rfl⟩ := List.getElem?_eq_some_iff.1 h'
  exact List.pairwise_iff_getElem.1 hp i (i + 1) h1 h2 (by omega)
end Go.Proofs.Ytpknabblllighaa
