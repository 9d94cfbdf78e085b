import Derived.Test.YtpknabblllighaaMap
/- A switch, plain. -/
namespace Go.Proofs.Ytpknabblllighaa
set_option linter.unusedVariables false
set_option linter.unusedSimpArgs false
open Go.RowKit Go.Maps
/-- a card's address as a key -/
def encC (k : List Int) : Value := .agg (k.map (fun b => Value.int .u8 b)).toArray
theorem encC_inj : ∀ x y, encC x = encC y → x = y := by
  intro x y h
  unfold encC at h
  injection h with h
  have h2 : x.map (fun b => Value.int .u8 b) = y.map (fun b => Value.int .u8 b) := by simpa using congrArg Array.toList h
  exact List.map_inj_right (fun a b e => by injection e) |>.1 h2
def keyOk (k : List Int) : Prop := k.length = 6 ∧ ∀ b ∈ k, 0 ≤ b ∧ b < 256
/-- what a switch knows -/
structure Sw where
  kn : List Int → Option Nat
  n : Nat
def sw0 : Sw := ⟨fun _ => none, 0⟩
def learnS (s : Sw) (port : Nat) (fr : List Int) (b0 : Int) : Sw :=
  if b0 % 2 = 0 ∧ ((s.kn fr).isSome = true ∨ s.n < 32) then ⟨fun k => if k = fr then some port else s.kn k, if (s.kn fr).isSome = true then s.n else s.n + 1⟩ else s
def outS (ports port : Nat) (at_ : Option Nat) : List Nat := (List.range ports).filter (fun p => decide (p ≠ port) && (at_.isNone || decide (at_ = some p)))
/-- the map's entries say what is known -/
structure KnAt (s : Sw) (kv : List (List Int × Value)) : Prop where
  get : ∀ k, kvGet kv k = (s.kn k).map (fun (p : Nat) => Value.int .i64 (p : Int))
  len : kv.length = s.n
theorem KnAt.init : KnAt sw0 [] := ⟨fun _ => rfl, rfl⟩
end Go.Proofs.Ytpknabblllighaa
