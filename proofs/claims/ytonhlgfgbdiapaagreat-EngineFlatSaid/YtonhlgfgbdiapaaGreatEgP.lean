import Derived.Test.YtonhlgfgbdiapaaGreatRam2
/- The engine, plain: its registers, what a write and a step do. -/
namespace Go.Proofs.YtonhlgfgbdiapaaGreat
set_option linter.unusedVariables false
set_option linter.unusedSimpArgs false
open Go.RowKit
/-- registers (by their offset; control and status aside), state, how much was copied -/
structure Eg where
  rg : Nat → Nat
  st : Nat
  cp : Nat
def eg0 : Eg := ⟨fun _ => 0, 0, 0⟩
def fitsE (off : Nat) (size : Int) : Bool := (size == 4 || size == 8) && ((off : Int) % size == 0) && decide (off < 56)
/-- what a register shows -/
def regE (s : Eg) (k : Nat) : Nat := if k = 24 then 0 else if k = 32 then s.st else s.rg k
def readE (s : Eg) (off : Nat) (size : Int) : Nat := if fitsE off size then (if size = 8 then regE s (off / 8 * 8) else regE s (off / 8 * 8) / 2 ^ (8 * (off % 8)) % 4294967296) else 0
def badE (s : Eg) : Bool := decide (s.rg 16 = 0) || decide (4096 < s.rg 16) || decide (s.rg 0 % 8 ≠ 0) || decide (s.rg 8 % 8 ≠ 0) || decide (s.rg 16 % 8 ≠ 0)
def cmdE (s : Eg) (v : Nat) : Eg :=
  if s.st = 1 then (if v / 2 % 2 = 1 then { s with st := 0 } else s)
  else if v % 2 = 1 then { s with st := if badE s then 3 else 1, cp := 0 }
  else if v / 2 % 2 = 1 then { s with st := 0 } else s
def setE (old off : Nat) (size : Int) (v : Nat) : Nat := if size = 8 then v else if off % 8 = 0 then old / 4294967296 * 4294967296 + v % 4294967296 else old % 4294967296 + v % 4294967296 * 4294967296
def putE (s : Eg) (k v : Nat) : Eg := { s with rg := fun x => if x = k then v else s.rg x }
def writeE (s : Eg) (off : Nat) (size : Int) (v : Nat) : Eg :=
  if fitsE off size then
    (if off / 8 * 8 = 24 then (if off = 24 then cmdE s v else s)
     else if off / 8 * 8 = 32 then s
     else if s.st = 1 then s else putE s (off / 8 * 8) (setE (s.rg (off / 8 * 8)) off size v))
  else s
structure EgOk (s : Eg) : Prop where
  rg : ∀ k, s.rg k < 18446744073709551616
  st : s.st < 4
  cp : s.cp < 18446744073709551616
  run : s.st = 1 → s.cp % 8 = 0 ∧ s.cp < s.rg 16 ∧ s.rg 16 ≤ 4096 ∧ s.rg 0 % 8 = 0 ∧ s.rg 8 % 8 = 0 ∧ s.rg 16 % 8 = 0
theorem EgOk.init : EgOk eg0 := ⟨fun k => by show 0 < _; decide, by decide, by decide, fun h => by cases h⟩
theorem setE_lt {old off : Nat} {size : Int} {v : Nat} (ho : old < 18446744073709551616) (hv : v < 18446744073709551616) : setE old off size v < 18446744073709551616 := by
  unfold setE; split
  · exact hv
  · split <;> omega
theorem EgOk.cmd {s : Eg} (h : EgOk s) (v : Nat) : EgOk (cmdE s v) := by
  unfold cmdE
  split
  · split
    · exact ⟨h.rg, by simp, h.cp, fun h => by simp at h⟩
    · exact h
  · split
    · cases hb : badE s with
      | true => exact ⟨h.rg, by simp, by show 0 < _; decide, fun h => by simp at h⟩
      | false =>
        refine ⟨h.rg, by simp, by show 0 < _; decide, fun _ => ?_⟩
        unfold badE at hb
        simp at hb
        show 0 % 8 = 0 ∧ 0 < s.rg 16 ∧ s.rg 16 ≤ 4096 ∧ s.rg 0 % 8 = 0 ∧ s.rg 8 % 8 = 0 ∧ s.rg 16 % 8 = 0
        omega
    · split
      · exact ⟨h.rg, by simp, h.cp, fun h => by simp at h⟩
      · exact h
theorem EgOk.put {s : Eg} (h : EgOk s) (hs : s.st ≠ 1) (k v : Nat) (hv : v < 18446744073709551616) : EgOk (putE s k v) :=
  ⟨fun x => by show (if x = k then v else s.rg x) < _; split; exact hv; exact h.rg x, h.st, h.cp, fun e => absurd e hs⟩
theorem EgOk.write {s : Eg} (h : EgOk s) (off : Nat) (size : Int) (v : Nat) (hv : v < 18446744073709551616) : EgOk (writeE s off size v) := by
  unfold writeE
  split
  · split
    · split
      · exact h.cmd v
      · exact h
    · split
      · exact h
      · split
        · exact h
        · rename_i hs
          exact h.put hs _ _ (setE_lt (h.rg _) hv)
  · exact h
/-- a message of a flat engine -/
def msgF (a d : Nat) : Int × Int × Bool := if a = 4276092928 ∧ d ≤ 15 then (1, 16 + d, true) else (0, 0, false)
def msgE (s : Eg) : Int × Int × Bool := if s.rg 40 = 0 then (0, 0, false) else msgF (s.rg 40) (s.rg 48)
/-- a step of a flat engine over a memory of n frames from base on: does it find both places -/
def goF (base n : Nat) (s : Eg) : Bool := hasR base n (((s.rg 0 + s.cp) % 18446744073709551616 : Nat) : Int) 8 && hasR base n (((s.rg 8 + s.cp) % 18446744073709551616 : Nat) : Int) 8
def stepS (base n : Nat) (s : Eg) : Eg :=
  if s.st = 1 then (if goF base n s then (if s.cp + 8 < s.rg 16 then { s with cp := s.cp + 8 } else { s with st := 2, cp := s.cp + 8 }) else { s with st := 3 }) else s
def stepM (base n : Nat) (s : Eg) (m : Nat → Int) : Nat → Int :=
  if s.st = 1 ∧ goF base n s = true then wrR base n m (((s.rg 8 + s.cp) % 18446744073709551616 : Nat) : Int) 8 (rdR base n m (((s.rg 0 + s.cp) % 18446744073709551616 : Nat) : Int) 8).1 else m
def stepR (base n : Nat) (s : Eg) : Int × Int × Bool := if s.st = 1 ∧ (stepS base n s).st ≠ 1 then msgE s else (0, 0, false)
theorem EgOk.step {s : Eg} (h : EgOk s) (base n : Nat) : EgOk (stepS base n s) := by
  unfold stepS
  split
  · rename_i hs
    obtain ⟨h1, h2, h3, h4, h5, h6⟩ := h.run hs
    split
    · split
      · rename_i hl
        exact ⟨h.rg, h.st, by show s.cp + 8 < _; omega, fun _ => ⟨by show (s.cp + 8) % 8 = 0; omega, hl, h3, h4, h5, h6⟩⟩
      · exact ⟨h.rg, by simp, by show s.cp + 8 < _; omega, fun h => by simp at h⟩
    · exact ⟨h.rg, by simp, h.cp, fun h => by simp at h⟩
  · exact h
end Go.Proofs.YtonhlgfgbdiapaaGreat
