/-
  No cell of these rows narrows 'for every input' (looked for: loops, veiled, ifaces, maps, wideKeys, modest, calm, conditions, laid).
  DERIVED. THE GIVEN ROWS OF THIS SEAT. 5 by the template 'for every input the law returns true; each argument reads behind the call as it read before'; 0 by the template 'total and deterministic' (their statements: YtibhialnaibkjaaTotals.lean).
  GIVEN WITH THE SEED: the statements are not yours to turn. If you find one false, say at which input.
  Laid BY PROGRAM, IN A SANDBOX (cutbox-rows.mjs): the forced cells as the released guide's own fill.sh prints them over the translation 0dbe357c05899f8f… (all of the seat's roots in one cut). By AI agents, Wed Nov 11 2026. No macro, syntax, notation, axiom, sorry.
-/
import Derived.Test.YtibhialnaibkjaaChecked
import GoSem.Claim
import GoSem.ClaimJoined
import GoSem.ClaimMapViews
import Derived.JoinedTies
import Derived.KernelRfl
namespace Go.Proofs.Ytibhialnaibkjaa
/- THE CELL 'sum', in the pinned program and in every row, IS THE sha256 OF THE DUMP (.gsa) THAT YtibhialnaibkjaaProg.lean LOADS. Nothing in Lean hashes anything: it is a label: what it is worth is what the hold of that sum in a sandbox is worth. -/
noncomputable def Try.pinned : Pinned := { name := "ytibhialnaibkjaa", sum := "0dbe357c05899f8fbfce89ef7e226241775133ae89b275d24a9c3ebaa99f7bf0", checked := Try.checked }
namespace Rows
def none {H : Type} : Left H := { results := [], args := [] }

/-- 'citadellaw12.PciSizes': WHATEVER THE INPUT: true; the input reads as it did. -/
def pciSizesSpec : ChangeSpec := { name := "pciSizes", fn := fun _ => fun
  | [d1, d2] => { results := [.lit (.bool true)], args := [d1, d2] }
  | _ => none }
def pciSizesRow : OpenClaim := { program := "ytibhialnaibkjaa", sum := "0dbe357c05899f8fbfce89ef7e226241775133ae89b275d24a9c3ebaa99f7bf0", func := "citadel/citadellaw12.PciSizes", spec := "pciSizes", apart := false }
def PciSizesSaid : Prop := pciSizesRow.holds Try.pinned (OpenSpec.ofChange pciSizesSpec)

/-- ITS FALSE NEIGHBOUR: 'it returns false'. Refute it at one input. -/
def pciSizesWrong : ChangeSpec := { name := "pciSizes", fn := fun _ => fun
  | [d1, d2] => { results := [.lit (.bool false)], args := [d1, d2] }
  | _ => none }
def PciSizesWrongFalsely : Prop := pciSizesRow.holds Try.pinned (OpenSpec.ofChange pciSizesWrong)

/-- 'citadellaw12.PciBytes': WHATEVER THE INPUT: true; the input reads as it did. -/
def pciBytesSpec : ChangeSpec := { name := "pciBytes", fn := fun _ => fun
  | [d1, d2, d3] => { results := [.lit (.bool true)], args := [d1, d2, d3] }
  | _ => none }
def pciBytesRow : OpenClaim := { program := "ytibhialnaibkjaa", sum := "0dbe357c05899f8fbfce89ef7e226241775133ae89b275d24a9c3ebaa99f7bf0", func := "citadel/citadellaw12.PciBytes", spec := "pciBytes", apart := false }
def PciBytesSaid : Prop := pciBytesRow.holds Try.pinned (OpenSpec.ofChange pciBytesSpec)

/-- ITS FALSE NEIGHBOUR: 'it returns false'. Refute it at one input. -/
def pciBytesWrong : ChangeSpec := { name := "pciBytes", fn := fun _ => fun
  | [d1, d2, d3] => { results := [.lit (.bool false)], args := [d1, d2, d3] }
  | _ => none }
def PciBytesWrongFalsely : Prop := pciBytesRow.holds Try.pinned (OpenSpec.ofChange pciBytesWrong)

/-- 'citadellaw12.PciSlots': WHATEVER THE INPUT: true; the input reads as it did. -/
def pciSlotsSpec : ChangeSpec := { name := "pciSlots", fn := fun _ => fun
  | [d1, d2, d3, d4] => { results := [.lit (.bool true)], args := [d1, d2, d3, d4] }
  | _ => none }
def pciSlotsRow : OpenClaim := { program := "ytibhialnaibkjaa", sum := "0dbe357c05899f8fbfce89ef7e226241775133ae89b275d24a9c3ebaa99f7bf0", func := "citadel/citadellaw12.PciSlots", spec := "pciSlots", apart := false }
def PciSlotsSaid : Prop := pciSlotsRow.holds Try.pinned (OpenSpec.ofChange pciSlotsSpec)

/-- ITS FALSE NEIGHBOUR: 'it returns false'. Refute it at one input. -/
def pciSlotsWrong : ChangeSpec := { name := "pciSlots", fn := fun _ => fun
  | [d1, d2, d3, d4] => { results := [.lit (.bool false)], args := [d1, d2, d3, d4] }
  | _ => none }
def PciSlotsWrongFalsely : Prop := pciSlotsRow.holds Try.pinned (OpenSpec.ofChange pciSlotsWrong)

/-- 'citadellaw12.PciFinds': WHATEVER THE INPUT: true; the input reads as it did. -/
def pciFindsSpec : ChangeSpec := { name := "pciFinds", fn := fun _ => fun
  | [d1, d2, d3] => { results := [.lit (.bool true)], args := [d1, d2, d3] }
  | _ => none }
def pciFindsRow : OpenClaim := { program := "ytibhialnaibkjaa", sum := "0dbe357c05899f8fbfce89ef7e226241775133ae89b275d24a9c3ebaa99f7bf0", func := "citadel/citadellaw12.PciFinds", spec := "pciFinds", apart := false }
def PciFindsSaid : Prop := pciFindsRow.holds Try.pinned (OpenSpec.ofChange pciFindsSpec)

/-- ITS FALSE NEIGHBOUR: 'it returns false'. Refute it at one input. -/
def pciFindsWrong : ChangeSpec := { name := "pciFinds", fn := fun _ => fun
  | [d1, d2, d3] => { results := [.lit (.bool false)], args := [d1, d2, d3] }
  | _ => none }
def PciFindsWrongFalsely : Prop := pciFindsRow.holds Try.pinned (OpenSpec.ofChange pciFindsWrong)

/-- 'citadellaw12.PciPlays': WHATEVER THE INPUT: true; the input reads as it did. -/
def pciPlaysSpec : ChangeSpec := { name := "pciPlays", fn := fun _ => fun
  | [d1, d2] => { results := [.lit (.bool true)], args := [d1, d2] }
  | _ => none }
def pciPlaysRow : OpenClaim := { program := "ytibhialnaibkjaa", sum := "0dbe357c05899f8fbfce89ef7e226241775133ae89b275d24a9c3ebaa99f7bf0", func := "citadel/citadellaw12.PciPlays", spec := "pciPlays", apart := false }
def PciPlaysSaid : Prop := pciPlaysRow.holds Try.pinned (OpenSpec.ofChange pciPlaysSpec)

/-- ITS FALSE NEIGHBOUR: 'it returns false'. Refute it at one input. -/
def pciPlaysWrong : ChangeSpec := { name := "pciPlays", fn := fun _ => fun
  | [d1, d2] => { results := [.lit (.bool false)], args := [d1, d2] }
  | _ => none }
def PciPlaysWrongFalsely : Prop := pciPlaysRow.holds Try.pinned (OpenSpec.ofChange pciPlaysWrong)

/- THE SECOND FORM. 'bulk': how many values and letters a reading holds, each counted each time it is reached (what is shared counts as often as it is met; a slice's spare places count too). A statement '..UptoSaid' is the law's where the arguments, and the package variables that the reading takes, are together of bulk at most 1048576: NARROWER than '..Said'. Prove '..Said' where nothing that the law and all that it calls make is longer than what came in: it says more and counts as full. Else prove '..UptoSaid'. A law counts once. -/
mutual
def uptoBulk {H : Type} : DataW H → Nat
  | .lit (.string bytes) => bytes.length + 1
  | .lit _ => 1
  | .nil => 1
  | .ptr d => uptoBulk d + 1
  | .slice elems spare => uptoBulkAll elems + uptoBulkAll spare + 1
  | .agg parts => uptoBulkAll parts + 1
  | .iface _ d => uptoBulk d + 1
  | .map entries => uptoBulkEntries entries + 1
  | .held _ => 1
def uptoBulkAll {H : Type} : List (DataW H) → Nat
  | [] => 0
  | d :: r => uptoBulk d + uptoBulkAll r
def uptoBulkEntries {H : Type} : List (Lit × DataW H) → Nat
  | [] => 0
  | x :: r => uptoBulkEntry x + uptoBulkEntries r
def uptoBulkEntry {H : Type} : Lit × DataW H → Nat
  | (.string bytes, d) => bytes.length + uptoBulk d + 1
  | (_, d) => uptoBulk d + 1
 end
def uptoSmall : (H : Type) → List (DataW H) → Bool := fun _ ds => decide (uptoBulkAll ds ≤ 1048576)
def OpenSpec.upto (s : _root_.Go.ChangeSpec) : _root_.Go.OpenSpec := { _root_.Go.OpenSpec.ofChange s with cond := some uptoSmall }

/-- 'citadellaw12.PciSizes', WHERE WHAT IT READS IS OF BULK AT MOST 1048576: true; the input reads as it did. -/
def pciSizesUptoRow : OpenClaim := { program := "ytibhialnaibkjaa", sum := "0dbe357c05899f8fbfce89ef7e226241775133ae89b275d24a9c3ebaa99f7bf0", func := "citadel/citadellaw12.PciSizes", spec := "pciSizes", apart := false, narrowed := true }
def PciSizesUptoSaid : Prop := pciSizesUptoRow.holds Try.pinned (OpenSpec.upto pciSizesSpec)

/-- 'citadellaw12.PciBytes', WHERE WHAT IT READS IS OF BULK AT MOST 1048576: true; the input reads as it did. -/
def pciBytesUptoRow : OpenClaim := { program := "ytibhialnaibkjaa", sum := "0dbe357c05899f8fbfce89ef7e226241775133ae89b275d24a9c3ebaa99f7bf0", func := "citadel/citadellaw12.PciBytes", spec := "pciBytes", apart := false, narrowed := true }
def PciBytesUptoSaid : Prop := pciBytesUptoRow.holds Try.pinned (OpenSpec.upto pciBytesSpec)

/-- 'citadellaw12.PciSlots', WHERE WHAT IT READS IS OF BULK AT MOST 1048576: true; the input reads as it did. -/
def pciSlotsUptoRow : OpenClaim := { program := "ytibhialnaibkjaa", sum := "0dbe357c05899f8fbfce89ef7e226241775133ae89b275d24a9c3ebaa99f7bf0", func := "citadel/citadellaw12.PciSlots", spec := "pciSlots", apart := false, narrowed := true }
def PciSlotsUptoSaid : Prop := pciSlotsUptoRow.holds Try.pinned (OpenSpec.upto pciSlotsSpec)

/-- 'citadellaw12.PciFinds', WHERE WHAT IT READS IS OF BULK AT MOST 1048576: true; the input reads as it did. -/
def pciFindsUptoRow : OpenClaim := { program := "ytibhialnaibkjaa", sum := "0dbe357c05899f8fbfce89ef7e226241775133ae89b275d24a9c3ebaa99f7bf0", func := "citadel/citadellaw12.PciFinds", spec := "pciFinds", apart := false, narrowed := true }
def PciFindsUptoSaid : Prop := pciFindsUptoRow.holds Try.pinned (OpenSpec.upto pciFindsSpec)

/-- 'citadellaw12.PciPlays', WHERE WHAT IT READS IS OF BULK AT MOST 1048576: true; the input reads as it did. -/
def pciPlaysUptoRow : OpenClaim := { program := "ytibhialnaibkjaa", sum := "0dbe357c05899f8fbfce89ef7e226241775133ae89b275d24a9c3ebaa99f7bf0", func := "citadel/citadellaw12.PciPlays", spec := "pciPlays", apart := false, narrowed := true }
def PciPlaysUptoSaid : Prop := pciPlaysUptoRow.holds Try.pinned (OpenSpec.upto pciPlaysSpec)

end Rows
end Go.Proofs.Ytibhialnaibkjaa
