/-
  No cell of these rows narrows 'for every input' (looked for: loops, veiled, ifaces, maps, wideKeys, modest, calm, conditions, laid).
  DERIVED. THE GIVEN ROWS OF THIS SEAT. 8 by the template 'for every input the law returns true; each argument reads behind the call as it read before'; 0 by the template 'total and deterministic' (their statements: YtlgcplekcmocbaaTotals.lean).
  GIVEN WITH THE SEED: the statements are not yours to turn. If you find one false, say at which input.
  Laid BY PROGRAM, IN A SANDBOX (cutbox-rows.mjs): the forced cells as the released guide's own fill.sh prints them over the translation 0cbfe2296a525519… (all of the seat's roots in one cut). By AI agents, Wed Nov 11 2026. No macro, syntax, notation, axiom, sorry.
-/
import Derived.Test.YtlgcplekcmocbaaChecked
import GoSem.Claim
import GoSem.ClaimJoined
import GoSem.ClaimMapViews
import Derived.JoinedTies
import Derived.KernelRfl
namespace Go.Proofs.Ytlgcplekcmocbaa
/- THE CELL 'sum', in the pinned program and in every row, IS THE sha256 OF THE DUMP (.gsa) THAT YtlgcplekcmocbaaProg.lean LOADS. Nothing in Lean hashes anything: it is a label: what it is worth is what the hold of that sum in a sandbox is worth. -/
noncomputable def Try.pinned : Pinned := { name := "ytlgcplekcmocbaa", sum := "0cbfe2296a5255192cdeea762fa6194f6bfffe74fd87b7f0b8865a35ba0f4fbd", checked := Try.checked }
namespace Rows
def none {H : Type} : Left H := { results := [], args := [] }

/-- 'citadellaw07.IommuMessages': WHATEVER THE INPUT: true; the input reads as it did. -/
def iommuMessagesSpec : ChangeSpec := { name := "iommuMessages", fn := fun _ => fun
  | [d1, d2, d3, d4, d5] => { results := [.lit (.bool true)], args := [d1, d2, d3, d4, d5] }
  | _ => none }
def iommuMessagesRow : OpenClaim := { program := "ytlgcplekcmocbaa", sum := "0cbfe2296a5255192cdeea762fa6194f6bfffe74fd87b7f0b8865a35ba0f4fbd", func := "citadel/citadellaw07.IommuMessages", spec := "iommuMessages", apart := false }
def IommuMessagesSaid : Prop := iommuMessagesRow.holds Try.pinned (OpenSpec.ofChange iommuMessagesSpec)

/-- ITS FALSE NEIGHBOUR: 'it returns false'. Refute it at one input. -/
def iommuMessagesWrong : ChangeSpec := { name := "iommuMessages", fn := fun _ => fun
  | [d1, d2, d3, d4, d5] => { results := [.lit (.bool false)], args := [d1, d2, d3, d4, d5] }
  | _ => none }
def IommuMessagesWrongFalsely : Prop := iommuMessagesRow.holds Try.pinned (OpenSpec.ofChange iommuMessagesWrong)

/-- 'citadellaw07.IommuAlone': WHATEVER THE INPUT: true; the input reads as it did. -/
def iommuAloneSpec : ChangeSpec := { name := "iommuAlone", fn := fun _ => fun
  | [d1, d2, d3, d4, d5] => { results := [.lit (.bool true)], args := [d1, d2, d3, d4, d5] }
  | _ => none }
def iommuAloneRow : OpenClaim := { program := "ytlgcplekcmocbaa", sum := "0cbfe2296a5255192cdeea762fa6194f6bfffe74fd87b7f0b8865a35ba0f4fbd", func := "citadel/citadellaw07.IommuAlone", spec := "iommuAlone", unfollowed := true, recurses := true, apart := false }
def IommuAloneSaid : Prop := iommuAloneRow.holds Try.pinned (OpenSpec.ofChange iommuAloneSpec)

/-- ITS FALSE NEIGHBOUR: 'it returns false'. Refute it at one input. -/
def iommuAloneWrong : ChangeSpec := { name := "iommuAlone", fn := fun _ => fun
  | [d1, d2, d3, d4, d5] => { results := [.lit (.bool false)], args := [d1, d2, d3, d4, d5] }
  | _ => none }
def IommuAloneWrongFalsely : Prop := iommuAloneRow.holds Try.pinned (OpenSpec.ofChange iommuAloneWrong)

/-- 'citadellaw07.IommuDrops': WHATEVER THE INPUT: true; the input reads as it did. -/
def iommuDropsSpec : ChangeSpec := { name := "iommuDrops", fn := fun _ => fun
  | [d1, d2] => { results := [.lit (.bool true)], args := [d1, d2] }
  | _ => none }
def iommuDropsRow : OpenClaim := { program := "ytlgcplekcmocbaa", sum := "0cbfe2296a5255192cdeea762fa6194f6bfffe74fd87b7f0b8865a35ba0f4fbd", func := "citadel/citadellaw07.IommuDrops", spec := "iommuDrops", unfollowed := true, recurses := true, apart := false }
def IommuDropsSaid : Prop := iommuDropsRow.holds Try.pinned (OpenSpec.ofChange iommuDropsSpec)

/-- ITS FALSE NEIGHBOUR: 'it returns false'. Refute it at one input. -/
def iommuDropsWrong : ChangeSpec := { name := "iommuDrops", fn := fun _ => fun
  | [d1, d2] => { results := [.lit (.bool false)], args := [d1, d2] }
  | _ => none }
def IommuDropsWrongFalsely : Prop := iommuDropsRow.holds Try.pinned (OpenSpec.ofChange iommuDropsWrong)

/-- 'citadellaw07.IommuRings': WHATEVER THE INPUT: true; the input reads as it did. -/
def iommuRingsSpec : ChangeSpec := { name := "iommuRings", fn := fun _ => fun
  | [d1, d2, d3] => { results := [.lit (.bool true)], args := [d1, d2, d3] }
  | _ => none }
def iommuRingsRow : OpenClaim := { program := "ytlgcplekcmocbaa", sum := "0cbfe2296a5255192cdeea762fa6194f6bfffe74fd87b7f0b8865a35ba0f4fbd", func := "citadel/citadellaw07.IommuRings", spec := "iommuRings", unfollowed := true, recurses := true, apart := false }
def IommuRingsSaid : Prop := iommuRingsRow.holds Try.pinned (OpenSpec.ofChange iommuRingsSpec)

/-- ITS FALSE NEIGHBOUR: 'it returns false'. Refute it at one input. -/
def iommuRingsWrong : ChangeSpec := { name := "iommuRings", fn := fun _ => fun
  | [d1, d2, d3] => { results := [.lit (.bool false)], args := [d1, d2, d3] }
  | _ => none }
def IommuRingsWrongFalsely : Prop := iommuRingsRow.holds Try.pinned (OpenSpec.ofChange iommuRingsWrong)

/-- 'citadellaw07.IommuForgets': WHATEVER THE INPUT: true; the input reads as it did. -/
def iommuForgetsSpec : ChangeSpec := { name := "iommuForgets", fn := fun _ => fun
  | [d1, d2, d3] => { results := [.lit (.bool true)], args := [d1, d2, d3] }
  | _ => none }
def iommuForgetsRow : OpenClaim := { program := "ytlgcplekcmocbaa", sum := "0cbfe2296a5255192cdeea762fa6194f6bfffe74fd87b7f0b8865a35ba0f4fbd", func := "citadel/citadellaw07.IommuForgets", spec := "iommuForgets", unfollowed := true, recurses := true, apart := false }
def IommuForgetsSaid : Prop := iommuForgetsRow.holds Try.pinned (OpenSpec.ofChange iommuForgetsSpec)

/-- ITS FALSE NEIGHBOUR: 'it returns false'. Refute it at one input. -/
def iommuForgetsWrong : ChangeSpec := { name := "iommuForgets", fn := fun _ => fun
  | [d1, d2, d3] => { results := [.lit (.bool false)], args := [d1, d2, d3] }
  | _ => none }
def IommuForgetsWrongFalsely : Prop := iommuForgetsRow.holds Try.pinned (OpenSpec.ofChange iommuForgetsWrong)

/-- 'citadellaw07.IommuReaches': WHATEVER THE INPUT: true; the input reads as it did. -/
def iommuReachesSpec : ChangeSpec := { name := "iommuReaches", fn := fun _ => fun
  | [d1, d2, d3, d4, d5] => { results := [.lit (.bool true)], args := [d1, d2, d3, d4, d5] }
  | _ => none }
def iommuReachesRow : OpenClaim := { program := "ytlgcplekcmocbaa", sum := "0cbfe2296a5255192cdeea762fa6194f6bfffe74fd87b7f0b8865a35ba0f4fbd", func := "citadel/citadellaw07.IommuReaches", spec := "iommuReaches", unfollowed := true, recurses := true, apart := false }
def IommuReachesSaid : Prop := iommuReachesRow.holds Try.pinned (OpenSpec.ofChange iommuReachesSpec)

/-- ITS FALSE NEIGHBOUR: 'it returns false'. Refute it at one input. -/
def iommuReachesWrong : ChangeSpec := { name := "iommuReaches", fn := fun _ => fun
  | [d1, d2, d3, d4, d5] => { results := [.lit (.bool false)], args := [d1, d2, d3, d4, d5] }
  | _ => none }
def IommuReachesWrongFalsely : Prop := iommuReachesRow.holds Try.pinned (OpenSpec.ofChange iommuReachesWrong)

/-- 'citadellaw07.IommuBlocks': WHATEVER THE INPUT: true; the input reads as it did. -/
def iommuBlocksSpec : ChangeSpec := { name := "iommuBlocks", fn := fun _ => fun
  | [d1, d2, d3, d4] => { results := [.lit (.bool true)], args := [d1, d2, d3, d4] }
  | _ => none }
def iommuBlocksRow : OpenClaim := { program := "ytlgcplekcmocbaa", sum := "0cbfe2296a5255192cdeea762fa6194f6bfffe74fd87b7f0b8865a35ba0f4fbd", func := "citadel/citadellaw07.IommuBlocks", spec := "iommuBlocks", unfollowed := true, recurses := true, apart := false }
def IommuBlocksSaid : Prop := iommuBlocksRow.holds Try.pinned (OpenSpec.ofChange iommuBlocksSpec)

/-- ITS FALSE NEIGHBOUR: 'it returns false'. Refute it at one input. -/
def iommuBlocksWrong : ChangeSpec := { name := "iommuBlocks", fn := fun _ => fun
  | [d1, d2, d3, d4] => { results := [.lit (.bool false)], args := [d1, d2, d3, d4] }
  | _ => none }
def IommuBlocksWrongFalsely : Prop := iommuBlocksRow.holds Try.pinned (OpenSpec.ofChange iommuBlocksWrong)

/-- 'citadellaw07.IommuPlays': WHATEVER THE INPUT: true; the input reads as it did. -/
def iommuPlaysSpec : ChangeSpec := { name := "iommuPlays", fn := fun _ => fun
  | [d1, d2, d3] => { results := [.lit (.bool true)], args := [d1, d2, d3] }
  | _ => none }
def iommuPlaysRow : OpenClaim := { program := "ytlgcplekcmocbaa", sum := "0cbfe2296a5255192cdeea762fa6194f6bfffe74fd87b7f0b8865a35ba0f4fbd", func := "citadel/citadellaw07.IommuPlays", spec := "iommuPlays", unfollowed := true, recurses := true, apart := false }
def IommuPlaysSaid : Prop := iommuPlaysRow.holds Try.pinned (OpenSpec.ofChange iommuPlaysSpec)

/-- ITS FALSE NEIGHBOUR: 'it returns false'. Refute it at one input. -/
def iommuPlaysWrong : ChangeSpec := { name := "iommuPlays", fn := fun _ => fun
  | [d1, d2, d3] => { results := [.lit (.bool false)], args := [d1, d2, d3] }
  | _ => none }
def IommuPlaysWrongFalsely : Prop := iommuPlaysRow.holds Try.pinned (OpenSpec.ofChange iommuPlaysWrong)

/- THE SECOND FORM. 'bulk': how many values and letters a reading holds, each counted each time it is reached (what is shared counts as often as it is met; a slice's spare places count too). A statement '..UptoSaid' is the law's where the arguments, and the package variables that the reading takes, are together of bulk at most 1048576: NARROWER than '..Said'. Prove '..Said' where nothing that the law and all that it calls make is longer than what came in: it says more and counts as full. Else prove '..UptoSaid'. A law counts once. -/
mutual
def uptoBulk {H : Type} : DataW H → Nat
  | .lit (.string bytes) => bytes.length + 1
  | .lit _ => 1
  | .nil => 1
  | .ptr d => uptoBulk d + 1
  | .slice elems spare => uptoBulkAll elems + uptoBulkAll spare + 1
  | .agg parts => uptoBulkAll parts + 1
  | .iface _ d => uptoBulk d + 1
  | .map entries => uptoBulkEntries entries + 1
  | .held _ => 1
def uptoBulkAll {H : Type} : List (DataW H) → Nat
  | [] => 0
  | d :: r => uptoBulk d + uptoBulkAll r
def uptoBulkEntries {H : Type} : List (Lit × DataW H) → Nat
  | [] => 0
  | x :: r => uptoBulkEntry x + uptoBulkEntries r
def uptoBulkEntry {H : Type} : Lit × DataW H → Nat
  | (.string bytes, d) => bytes.length + uptoBulk d + 1
  | (_, d) => uptoBulk d + 1
 end
def uptoSmall : (H : Type) → List (DataW H) → Bool := fun _ ds => decide (uptoBulkAll ds ≤ 1048576)
def OpenSpec.upto (s : _root_.Go.ChangeSpec) : _root_.Go.OpenSpec := { _root_.Go.OpenSpec.ofChange s with cond := some uptoSmall }

/-- 'citadellaw07.IommuMessages', WHERE WHAT IT READS IS OF BULK AT MOST 1048576: true; the input reads as it did. -/
def iommuMessagesUptoRow : OpenClaim := { program := "ytlgcplekcmocbaa", sum := "0cbfe2296a5255192cdeea762fa6194f6bfffe74fd87b7f0b8865a35ba0f4fbd", func := "citadel/citadellaw07.IommuMessages", spec := "iommuMessages", apart := false, narrowed := true }
def IommuMessagesUptoSaid : Prop := iommuMessagesUptoRow.holds Try.pinned (OpenSpec.upto iommuMessagesSpec)

/-- 'citadellaw07.IommuAlone', WHERE WHAT IT READS IS OF BULK AT MOST 1048576: true; the input reads as it did. -/
def iommuAloneUptoRow : OpenClaim := { program := "ytlgcplekcmocbaa", sum := "0cbfe2296a5255192cdeea762fa6194f6bfffe74fd87b7f0b8865a35ba0f4fbd", func := "citadel/citadellaw07.IommuAlone", spec := "iommuAlone", unfollowed := true, recurses := true, apart := false, narrowed := true }
def IommuAloneUptoSaid : Prop := iommuAloneUptoRow.holds Try.pinned (OpenSpec.upto iommuAloneSpec)

/-- 'citadellaw07.IommuDrops', WHERE WHAT IT READS IS OF BULK AT MOST 1048576: true; the input reads as it did. -/
def iommuDropsUptoRow : OpenClaim := { program := "ytlgcplekcmocbaa", sum := "0cbfe2296a5255192cdeea762fa6194f6bfffe74fd87b7f0b8865a35ba0f4fbd", func := "citadel/citadellaw07.IommuDrops", spec := "iommuDrops", unfollowed := true, recurses := true, apart := false, narrowed := true }
def IommuDropsUptoSaid : Prop := iommuDropsUptoRow.holds Try.pinned (OpenSpec.upto iommuDropsSpec)

/-- 'citadellaw07.IommuRings', WHERE WHAT IT READS IS OF BULK AT MOST 1048576: true; the input reads as it did. -/
def iommuRingsUptoRow : OpenClaim := { program := "ytlgcplekcmocbaa", sum := "0cbfe2296a5255192cdeea762fa6194f6bfffe74fd87b7f0b8865a35ba0f4fbd", func := "citadel/citadellaw07.IommuRings", spec := "iommuRings", unfollowed := true, recurses := true, apart := false, narrowed := true }
def IommuRingsUptoSaid : Prop := iommuRingsUptoRow.holds Try.pinned (OpenSpec.upto iommuRingsSpec)

/-- 'citadellaw07.IommuForgets', WHERE WHAT IT READS IS OF BULK AT MOST 1048576: true; the input reads as it did. -/
def iommuForgetsUptoRow : OpenClaim := { program := "ytlgcplekcmocbaa", sum := "0cbfe2296a5255192cdeea762fa6194f6bfffe74fd87b7f0b8865a35ba0f4fbd", func := "citadel/citadellaw07.IommuForgets", spec := "iommuForgets", unfollowed := true, recurses := true, apart := false, narrowed := true }
def IommuForgetsUptoSaid : Prop := iommuForgetsUptoRow.holds Try.pinned (OpenSpec.upto iommuForgetsSpec)

/-- 'citadellaw07.IommuReaches', WHERE WHAT IT READS IS OF BULK AT MOST 1048576: true; the input reads as it did. -/
def iommuReachesUptoRow : OpenClaim := { program := "ytlgcplekcmocbaa", sum := "0cbfe2296a5255192cdeea762fa6194f6bfffe74fd87b7f0b8865a35ba0f4fbd", func := "citadel/citadellaw07.IommuReaches", spec := "iommuReaches", unfollowed := true, recurses := true, apart := false, narrowed := true }
def IommuReachesUptoSaid : Prop := iommuReachesUptoRow.holds Try.pinned (OpenSpec.upto iommuReachesSpec)

/-- 'citadellaw07.IommuBlocks', WHERE WHAT IT READS IS OF BULK AT MOST 1048576: true; the input reads as it did. -/
def iommuBlocksUptoRow : OpenClaim := { program := "ytlgcplekcmocbaa", sum := "0cbfe2296a5255192cdeea762fa6194f6bfffe74fd87b7f0b8865a35ba0f4fbd", func := "citadel/citadellaw07.IommuBlocks", spec := "iommuBlocks", unfollowed := true, recurses := true, apart := false, narrowed := true }
def IommuBlocksUptoSaid : Prop := iommuBlocksUptoRow.holds Try.pinned (OpenSpec.upto iommuBlocksSpec)

/-- 'citadellaw07.IommuPlays', WHERE WHAT IT READS IS OF BULK AT MOST 1048576: true; the input reads as it did. -/
def iommuPlaysUptoRow : OpenClaim := { program := "ytlgcplekcmocbaa", sum := "0cbfe2296a5255192cdeea762fa6194f6bfffe74fd87b7f0b8865a35ba0f4fbd", func := "citadel/citadellaw07.IommuPlays", spec := "iommuPlays", unfollowed := true, recurses := true, apart := false, narrowed := true }
def IommuPlaysUptoSaid : Prop := iommuPlaysUptoRow.holds Try.pinned (OpenSpec.upto iommuPlaysSpec)

end Rows
end Go.Proofs.Ytlgcplekcmocbaa
