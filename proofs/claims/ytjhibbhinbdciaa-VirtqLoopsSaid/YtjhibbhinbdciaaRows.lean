/-
  No cell of these rows narrows 'for every input' (looked for: loops, veiled, ifaces, maps, wideKeys, modest, calm, conditions, laid).
  DERIVED. THE GIVEN ROWS OF THIS SEAT. 7 by the template 'for every input the law returns true; each argument reads behind the call as it read before'; 0 by the template 'total and deterministic' (their statements: YtjhibbhinbdciaaTotals.lean).
  GIVEN WITH THE SEED: the statements are not yours to turn. If you find one false, say at which input.
  Laid BY PROGRAM, IN A SANDBOX (cutbox-rows.mjs): the forced cells as the released guide's own fill.sh prints them over the translation 0d67239b85abe166… (all of the seat's roots in one cut). By AI agents, Wed Nov 11 2026. No macro, syntax, notation, axiom, sorry.
-/
import Derived.Test.YtjhibbhinbdciaaChecked
import GoSem.Claim
import GoSem.ClaimJoined
import GoSem.ClaimMapViews
import Derived.JoinedTies
import Derived.KernelRfl
namespace Go.Proofs.Ytjhibbhinbdciaa
/- THE CELL 'sum', in the pinned program and in every row, IS THE sha256 OF THE DUMP (.gsa) THAT YtjhibbhinbdciaaProg.lean LOADS. Nothing in Lean hashes anything: it is a label: what it is worth is what the hold of that sum in a sandbox is worth. -/
noncomputable def Try.pinned : Pinned := { name := "ytjhibbhinbdciaa", sum := "0d67239b85abe166b8144123c957a20313983db8710ddba905c1f52187abfa5e", checked := Try.checked }
namespace Rows
def none {H : Type} : Left H := { results := [], args := [] }

/-- 'citadellaw13.VirtqRound': WHATEVER THE INPUT: true; the input reads as it did. -/
def virtqRoundSpec : ChangeSpec := { name := "virtqRound", fn := fun _ => fun
  | [d1, d2, d3] => { results := [.lit (.bool true)], args := [d1, d2, d3] }
  | _ => none }
def virtqRoundRow : OpenClaim := { program := "ytjhibbhinbdciaa", sum := "0d67239b85abe166b8144123c957a20313983db8710ddba905c1f52187abfa5e", func := "citadel/citadellaw13.VirtqRound", spec := "virtqRound", unfollowed := true, recurses := true, apart := false }
def VirtqRoundSaid : Prop := virtqRoundRow.holds Try.pinned (OpenSpec.ofChange virtqRoundSpec)

/-- ITS FALSE NEIGHBOUR: 'it returns false'. Refute it at one input. -/
def virtqRoundWrong : ChangeSpec := { name := "virtqRound", fn := fun _ => fun
  | [d1, d2, d3] => { results := [.lit (.bool false)], args := [d1, d2, d3] }
  | _ => none }
def VirtqRoundWrongFalsely : Prop := virtqRoundRow.holds Try.pinned (OpenSpec.ofChange virtqRoundWrong)

/-- 'citadellaw13.VirtqWrong': WHATEVER THE INPUT: true; the input reads as it did. -/
def virtqWrongSpec : ChangeSpec := { name := "virtqWrong", fn := fun _ => fun
  | [d1, d2, d3, d4, d5] => { results := [.lit (.bool true)], args := [d1, d2, d3, d4, d5] }
  | _ => none }
def virtqWrongRow : OpenClaim := { program := "ytjhibbhinbdciaa", sum := "0d67239b85abe166b8144123c957a20313983db8710ddba905c1f52187abfa5e", func := "citadel/citadellaw13.VirtqWrong", spec := "virtqWrong", unfollowed := true, recurses := true, apart := false }
def VirtqWrongSaid : Prop := virtqWrongRow.holds Try.pinned (OpenSpec.ofChange virtqWrongSpec)

/-- ITS FALSE NEIGHBOUR: 'it returns false'. Refute it at one input. -/
def virtqWrongWrong : ChangeSpec := { name := "virtqWrong", fn := fun _ => fun
  | [d1, d2, d3, d4, d5] => { results := [.lit (.bool false)], args := [d1, d2, d3, d4, d5] }
  | _ => none }
def VirtqWrongWrongFalsely : Prop := virtqWrongRow.holds Try.pinned (OpenSpec.ofChange virtqWrongWrong)

/-- 'citadellaw13.VirtqSettings': WHATEVER THE INPUT: true; the input reads as it did. -/
def virtqSettingsSpec : ChangeSpec := { name := "virtqSettings", fn := fun _ => fun
  | [d1, d2, d3, d4] => { results := [.lit (.bool true)], args := [d1, d2, d3, d4] }
  | _ => none }
def virtqSettingsRow : OpenClaim := { program := "ytjhibbhinbdciaa", sum := "0d67239b85abe166b8144123c957a20313983db8710ddba905c1f52187abfa5e", func := "citadel/citadellaw13.VirtqSettings", spec := "virtqSettings", unfollowed := true, recurses := true, apart := false }
def VirtqSettingsSaid : Prop := virtqSettingsRow.holds Try.pinned (OpenSpec.ofChange virtqSettingsSpec)

/-- ITS FALSE NEIGHBOUR: 'it returns false'. Refute it at one input. -/
def virtqSettingsWrong : ChangeSpec := { name := "virtqSettings", fn := fun _ => fun
  | [d1, d2, d3, d4] => { results := [.lit (.bool false)], args := [d1, d2, d3, d4] }
  | _ => none }
def VirtqSettingsWrongFalsely : Prop := virtqSettingsRow.holds Try.pinned (OpenSpec.ofChange virtqSettingsWrong)

/-- 'citadellaw13.VirtqQuiet': WHATEVER THE INPUT: true; the input reads as it did. -/
def virtqQuietSpec : ChangeSpec := { name := "virtqQuiet", fn := fun _ => fun
  | [d1, d2] => { results := [.lit (.bool true)], args := [d1, d2] }
  | _ => none }
def virtqQuietRow : OpenClaim := { program := "ytjhibbhinbdciaa", sum := "0d67239b85abe166b8144123c957a20313983db8710ddba905c1f52187abfa5e", func := "citadel/citadellaw13.VirtqQuiet", spec := "virtqQuiet", unfollowed := true, recurses := true, apart := false }
def VirtqQuietSaid : Prop := virtqQuietRow.holds Try.pinned (OpenSpec.ofChange virtqQuietSpec)

/-- ITS FALSE NEIGHBOUR: 'it returns false'. Refute it at one input. -/
def virtqQuietWrong : ChangeSpec := { name := "virtqQuiet", fn := fun _ => fun
  | [d1, d2] => { results := [.lit (.bool false)], args := [d1, d2] }
  | _ => none }
def VirtqQuietWrongFalsely : Prop := virtqQuietRow.holds Try.pinned (OpenSpec.ofChange virtqQuietWrong)

/-- 'citadellaw13.VirtqLoops': WHATEVER THE INPUT: true; the input reads as it did. -/
def virtqLoopsSpec : ChangeSpec := { name := "virtqLoops", fn := fun _ => fun
  | [d1, d2, d3] => { results := [.lit (.bool true)], args := [d1, d2, d3] }
  | _ => none }
def virtqLoopsRow : OpenClaim := { program := "ytjhibbhinbdciaa", sum := "0d67239b85abe166b8144123c957a20313983db8710ddba905c1f52187abfa5e", func := "citadel/citadellaw13.VirtqLoops", spec := "virtqLoops", unfollowed := true, recurses := true, apart := false }
def VirtqLoopsSaid : Prop := virtqLoopsRow.holds Try.pinned (OpenSpec.ofChange virtqLoopsSpec)

/-- ITS FALSE NEIGHBOUR: 'it returns false'. Refute it at one input. -/
def virtqLoopsWrong : ChangeSpec := { name := "virtqLoops", fn := fun _ => fun
  | [d1, d2, d3] => { results := [.lit (.bool false)], args := [d1, d2, d3] }
  | _ => none }
def VirtqLoopsWrongFalsely : Prop := virtqLoopsRow.holds Try.pinned (OpenSpec.ofChange virtqLoopsWrong)

/-- 'citadellaw13.VirtqBounds': WHATEVER THE INPUT: true; the input reads as it did. -/
def virtqBoundsSpec : ChangeSpec := { name := "virtqBounds", fn := fun _ => fun
  | [d1, d2, d3] => { results := [.lit (.bool true)], args := [d1, d2, d3] }
  | _ => none }
def virtqBoundsRow : OpenClaim := { program := "ytjhibbhinbdciaa", sum := "0d67239b85abe166b8144123c957a20313983db8710ddba905c1f52187abfa5e", func := "citadel/citadellaw13.VirtqBounds", spec := "virtqBounds", unfollowed := true, recurses := true, apart := false }
def VirtqBoundsSaid : Prop := virtqBoundsRow.holds Try.pinned (OpenSpec.ofChange virtqBoundsSpec)

/-- ITS FALSE NEIGHBOUR: 'it returns false'. Refute it at one input. -/
def virtqBoundsWrong : ChangeSpec := { name := "virtqBounds", fn := fun _ => fun
  | [d1, d2, d3] => { results := [.lit (.bool false)], args := [d1, d2, d3] }
  | _ => none }
def VirtqBoundsWrongFalsely : Prop := virtqBoundsRow.holds Try.pinned (OpenSpec.ofChange virtqBoundsWrong)

/-- 'citadellaw13.VirtqPlays': WHATEVER THE INPUT: true; the input reads as it did. -/
def virtqPlaysSpec : ChangeSpec := { name := "virtqPlays", fn := fun _ => fun
  | [d1, d2, d3] => { results := [.lit (.bool true)], args := [d1, d2, d3] }
  | _ => none }
def virtqPlaysRow : OpenClaim := { program := "ytjhibbhinbdciaa", sum := "0d67239b85abe166b8144123c957a20313983db8710ddba905c1f52187abfa5e", func := "citadel/citadellaw13.VirtqPlays", spec := "virtqPlays", unfollowed := true, recurses := true, apart := false }
def VirtqPlaysSaid : Prop := virtqPlaysRow.holds Try.pinned (OpenSpec.ofChange virtqPlaysSpec)

/-- ITS FALSE NEIGHBOUR: 'it returns false'. Refute it at one input. -/
def virtqPlaysWrong : ChangeSpec := { name := "virtqPlays", fn := fun _ => fun
  | [d1, d2, d3] => { results := [.lit (.bool false)], args := [d1, d2, d3] }
  | _ => none }
def VirtqPlaysWrongFalsely : Prop := virtqPlaysRow.holds Try.pinned (OpenSpec.ofChange virtqPlaysWrong)

/- THE SECOND FORM. 'bulk': how many values and letters a reading holds, each counted each time it is reached (what is shared counts as often as it is met; a slice's spare places count too). A statement '..UptoSaid' is the law's where the arguments, and the package variables that the reading takes, are together of bulk at most 1048576: NARROWER than '..Said'. Prove '..Said' where nothing that the law and all that it calls make is longer than what came in: it says more and counts as full. Else prove '..UptoSaid'. A law counts once. -/
mutual
def uptoBulk {H : Type} : DataW H → Nat
  | .lit (.string bytes) => bytes.length + 1
  | .lit _ => 1
  | .nil => 1
  | .ptr d => uptoBulk d + 1
  | .slice elems spare => uptoBulkAll elems + uptoBulkAll spare + 1
  | .agg parts => uptoBulkAll parts + 1
  | .iface _ d => uptoBulk d + 1
  | .map entries => uptoBulkEntries entries + 1
  | .held _ => 1
def uptoBulkAll {H : Type} : List (DataW H) → Nat
  | [] => 0
  | d :: r => uptoBulk d + uptoBulkAll r
def uptoBulkEntries {H : Type} : List (Lit × DataW H) → Nat
  | [] => 0
  | x :: r => uptoBulkEntry x + uptoBulkEntries r
def uptoBulkEntry {H : Type} : Lit × DataW H → Nat
  | (.string bytes, d) => bytes.length + uptoBulk d + 1
  | (_, d) => uptoBulk d + 1
 end
def uptoSmall : (H : Type) → List (DataW H) → Bool := fun _ ds => decide (uptoBulkAll ds ≤ 1048576)
def OpenSpec.upto (s : _root_.Go.ChangeSpec) : _root_.Go.OpenSpec := { _root_.Go.OpenSpec.ofChange s with cond := some uptoSmall }

/-- 'citadellaw13.VirtqRound', WHERE WHAT IT READS IS OF BULK AT MOST 1048576: true; the input reads as it did. -/
def virtqRoundUptoRow : OpenClaim := { program := "ytjhibbhinbdciaa", sum := "0d67239b85abe166b8144123c957a20313983db8710ddba905c1f52187abfa5e", func := "citadel/citadellaw13.VirtqRound", spec := "virtqRound", unfollowed := true, recurses := true, apart := false, narrowed := true }
def VirtqRoundUptoSaid : Prop := virtqRoundUptoRow.holds Try.pinned (OpenSpec.upto virtqRoundSpec)

/-- 'citadellaw13.VirtqWrong', WHERE WHAT IT READS IS OF BULK AT MOST 1048576: true; the input reads as it did. -/
def virtqWrongUptoRow : OpenClaim := { program := "ytjhibbhinbdciaa", sum := "0d67239b85abe166b8144123c957a20313983db8710ddba905c1f52187abfa5e", func := "citadel/citadellaw13.VirtqWrong", spec := "virtqWrong", unfollowed := true, recurses := true, apart := false, narrowed := true }
def VirtqWrongUptoSaid : Prop := virtqWrongUptoRow.holds Try.pinned (OpenSpec.upto virtqWrongSpec)

/-- 'citadellaw13.VirtqSettings', WHERE WHAT IT READS IS OF BULK AT MOST 1048576: true; the input reads as it did. -/
def virtqSettingsUptoRow : OpenClaim := { program := "ytjhibbhinbdciaa", sum := "0d67239b85abe166b8144123c957a20313983db8710ddba905c1f52187abfa5e", func := "citadel/citadellaw13.VirtqSettings", spec := "virtqSettings", unfollowed := true, recurses := true, apart := false, narrowed := true }
def VirtqSettingsUptoSaid : Prop := virtqSettingsUptoRow.holds Try.pinned (OpenSpec.upto virtqSettingsSpec)

/-- 'citadellaw13.VirtqQuiet', WHERE WHAT IT READS IS OF BULK AT MOST 1048576: true; the input reads as it did. -/
def virtqQuietUptoRow : OpenClaim := { program := "ytjhibbhinbdciaa", sum := "0d67239b85abe166b8144123c957a20313983db8710ddba905c1f52187abfa5e", func := "citadel/citadellaw13.VirtqQuiet", spec := "virtqQuiet", unfollowed := true, recurses := true, apart := false, narrowed := true }
def VirtqQuietUptoSaid : Prop := virtqQuietUptoRow.holds Try.pinned (OpenSpec.upto virtqQuietSpec)

/-- 'citadellaw13.VirtqLoops', WHERE WHAT IT READS IS OF BULK AT MOST 1048576: true; the input reads as it did. -/
def virtqLoopsUptoRow : OpenClaim := { program := "ytjhibbhinbdciaa", sum := "0d67239b85abe166b8144123c957a20313983db8710ddba905c1f52187abfa5e", func := "citadel/citadellaw13.VirtqLoops", spec := "virtqLoops", unfollowed := true, recurses := true, apart := false, narrowed := true }
def VirtqLoopsUptoSaid : Prop := virtqLoopsUptoRow.holds Try.pinned (OpenSpec.upto virtqLoopsSpec)

/-- 'citadellaw13.VirtqBounds', WHERE WHAT IT READS IS OF BULK AT MOST 1048576: true; the input reads as it did. -/
def virtqBoundsUptoRow : OpenClaim := { program := "ytjhibbhinbdciaa", sum := "0d67239b85abe166b8144123c957a20313983db8710ddba905c1f52187abfa5e", func := "citadel/citadellaw13.VirtqBounds", spec := "virtqBounds", unfollowed := true, recurses := true, apart := false, narrowed := true }
def VirtqBoundsUptoSaid : Prop := virtqBoundsUptoRow.holds Try.pinned (OpenSpec.upto virtqBoundsSpec)

/-- 'citadellaw13.VirtqPlays', WHERE WHAT IT READS IS OF BULK AT MOST 1048576: true; the input reads as it did. -/
def virtqPlaysUptoRow : OpenClaim := { program := "ytjhibbhinbdciaa", sum := "0d67239b85abe166b8144123c957a20313983db8710ddba905c1f52187abfa5e", func := "citadel/citadellaw13.VirtqPlays", spec := "virtqPlays", unfollowed := true, recurses := true, apart := false, narrowed := true }
def VirtqPlaysUptoSaid : Prop := virtqPlaysUptoRow.holds Try.pinned (OpenSpec.upto virtqPlaysSpec)

end Rows
end Go.Proofs.Ytjhibbhinbdciaa
