/-
  No cell of these rows narrows 'for every input' (looked for: loops, veiled, ifaces, maps, wideKeys, modest, calm, conditions, laid).
  DERIVED. THE GIVEN ROWS OF THIS SEAT. 14 by the template 'for every input the law returns true; each argument reads behind the call as it read before'; 0 by the template 'total and deterministic' (their statements: YtpodeclkgcgpgaaTotals.lean).
  GIVEN WITH THE SEED: the statements are not yours to turn. If you find one false, say at which input.
  Laid BY PROGRAM, IN A SANDBOX (cutbox-rows.mjs): the forced cells as the released guide's own fill.sh prints them over the translation ac6967f1bca12e1b… (all of the seat's roots in one cut). By AI agents, Wed Nov 11 2026. No macro, syntax, notation, axiom, sorry.
-/
import Derived.Test.YtpodeclkgcgpgaaChecked
import GoSem.Claim
import GoSem.ClaimJoined
import GoSem.ClaimMapViews
import Derived.JoinedTies
import Derived.KernelRfl
namespace Go.Proofs.Ytpodeclkgcgpgaa
/- THE CELL 'sum', in the pinned program and in every row, IS THE sha256 OF THE DUMP (.gsa) THAT YtpodeclkgcgpgaaProg.lean LOADS. Nothing in Lean hashes anything: it is a label: what it is worth is what the hold of that sum in a sandbox is worth. -/
noncomputable def Try.pinned : Pinned := { name := "ytpodeclkgcgpgaa", sum := "ac6967f1bca12e1bd5cdc7d734f7335fc2354813ecb532a58e1fd37c89ef327a", checked := Try.checked }
namespace Rows
def none {H : Type} : Left H := { results := [], args := [] }

/-- 'citadellaw09.FrameReserved': WHATEVER THE INPUT: true; the input reads as it did. -/
def frameReservedSpec : ChangeSpec := { name := "frameReserved", fn := fun _ => fun
  | [d1, d2, d3] => { results := [.lit (.bool true)], args := [d1, d2, d3] }
  | _ => none }
def frameReservedRow : OpenClaim := { program := "ytpodeclkgcgpgaa", sum := "ac6967f1bca12e1bd5cdc7d734f7335fc2354813ecb532a58e1fd37c89ef327a", func := "citadel/citadellaw09.FrameReserved", spec := "frameReserved", inPlace := ["sync/atomic.LoadUint32", "(*internal/sync.Mutex).Lock", "internal/race.Disable", "sync/atomic.CompareAndSwapInt32", "internal/race.Enable", "internal/race.Acquire", "(*internal/sync.Mutex).lockSlow", "internal/sync.runtime_canSpin", "internal/sync.runtime_doSpin", "internal/sync.throw", "internal/sync.runtime_nanotime", "internal/sync.runtime_SemacquireMutex", "sync/atomic.AddInt32", "(*internal/sync.Mutex).Unlock", "internal/race.ReleaseMerge", "(*internal/sync.Mutex).unlockSlow", "internal/sync.fatal", "internal/sync.runtime_Semrelease", "sync/atomic.StoreUint32", "sync/atomic.StoreUint64", "sync/atomic.AndUint64", "sync/atomic.LoadUint64"], unfollowed := true, recurses := true, apart := false }
def FrameReservedSaid : Prop := frameReservedRow.holds Try.pinned (OpenSpec.ofChange frameReservedSpec)

/-- ITS FALSE NEIGHBOUR: 'it returns false'. Refute it at one input. -/
def frameReservedWrong : ChangeSpec := { name := "frameReserved", fn := fun _ => fun
  | [d1, d2, d3] => { results := [.lit (.bool false)], args := [d1, d2, d3] }
  | _ => none }
def FrameReservedWrongFalsely : Prop := frameReservedRow.holds Try.pinned (OpenSpec.ofChange frameReservedWrong)

/-- 'citadellaw09.FrameCounts': WHATEVER THE INPUT: true; the input reads as it did. -/
def frameCountsSpec : ChangeSpec := { name := "frameCounts", fn := fun _ => fun
  | [d1, d2, d3] => { results := [.lit (.bool true)], args := [d1, d2, d3] }
  | _ => none }
def frameCountsRow : OpenClaim := { program := "ytpodeclkgcgpgaa", sum := "ac6967f1bca12e1bd5cdc7d734f7335fc2354813ecb532a58e1fd37c89ef327a", func := "citadel/citadellaw09.FrameCounts", spec := "frameCounts", inPlace := ["sync/atomic.LoadUint32", "(*internal/sync.Mutex).Lock", "internal/race.Disable", "sync/atomic.CompareAndSwapInt32", "internal/race.Enable", "internal/race.Acquire", "(*internal/sync.Mutex).lockSlow", "internal/sync.runtime_canSpin", "internal/sync.runtime_doSpin", "internal/sync.throw", "internal/sync.runtime_nanotime", "internal/sync.runtime_SemacquireMutex", "sync/atomic.AddInt32", "(*internal/sync.Mutex).Unlock", "internal/race.ReleaseMerge", "(*internal/sync.Mutex).unlockSlow", "internal/sync.fatal", "internal/sync.runtime_Semrelease", "sync/atomic.StoreUint32", "sync/atomic.StoreUint64", "sync/atomic.AndUint64", "sync/atomic.LoadUint64"], unfollowed := true, recurses := true, apart := false }
def FrameCountsSaid : Prop := frameCountsRow.holds Try.pinned (OpenSpec.ofChange frameCountsSpec)

/-- ITS FALSE NEIGHBOUR: 'it returns false'. Refute it at one input. -/
def frameCountsWrong : ChangeSpec := { name := "frameCounts", fn := fun _ => fun
  | [d1, d2, d3] => { results := [.lit (.bool false)], args := [d1, d2, d3] }
  | _ => none }
def FrameCountsWrongFalsely : Prop := frameCountsRow.holds Try.pinned (OpenSpec.ofChange frameCountsWrong)

/-- 'citadellaw09.FrameRound': WHATEVER THE INPUT: true; the input reads as it did. -/
def frameRoundSpec : ChangeSpec := { name := "frameRound", fn := fun _ => fun
  | [d1, d2, d3, d4, d5] => { results := [.lit (.bool true)], args := [d1, d2, d3, d4, d5] }
  | _ => none }
def frameRoundRow : OpenClaim := { program := "ytpodeclkgcgpgaa", sum := "ac6967f1bca12e1bd5cdc7d734f7335fc2354813ecb532a58e1fd37c89ef327a", func := "citadel/citadellaw09.FrameRound", spec := "frameRound", inPlace := ["sync/atomic.LoadUint32", "(*internal/sync.Mutex).Lock", "internal/race.Disable", "sync/atomic.CompareAndSwapInt32", "internal/race.Enable", "internal/race.Acquire", "(*internal/sync.Mutex).lockSlow", "internal/sync.runtime_canSpin", "internal/sync.runtime_doSpin", "internal/sync.throw", "internal/sync.runtime_nanotime", "internal/sync.runtime_SemacquireMutex", "sync/atomic.AddInt32", "(*internal/sync.Mutex).Unlock", "internal/race.ReleaseMerge", "(*internal/sync.Mutex).unlockSlow", "internal/sync.fatal", "internal/sync.runtime_Semrelease", "sync/atomic.StoreUint32", "sync/atomic.StoreUint64", "sync/atomic.AndUint64", "sync/atomic.LoadUint64"], unfollowed := true, recurses := true, apart := false }
def FrameRoundSaid : Prop := frameRoundRow.holds Try.pinned (OpenSpec.ofChange frameRoundSpec)

/-- ITS FALSE NEIGHBOUR: 'it returns false'. Refute it at one input. -/
def frameRoundWrong : ChangeSpec := { name := "frameRound", fn := fun _ => fun
  | [d1, d2, d3, d4, d5] => { results := [.lit (.bool false)], args := [d1, d2, d3, d4, d5] }
  | _ => none }
def FrameRoundWrongFalsely : Prop := frameRoundRow.holds Try.pinned (OpenSpec.ofChange frameRoundWrong)

/-- 'citadellaw09.FrameMany': WHATEVER THE INPUT: true; the input reads as it did. -/
def frameManySpec : ChangeSpec := { name := "frameMany", fn := fun _ => fun
  | [d1, d2, d3, d4] => { results := [.lit (.bool true)], args := [d1, d2, d3, d4] }
  | _ => none }
def frameManyRow : OpenClaim := { program := "ytpodeclkgcgpgaa", sum := "ac6967f1bca12e1bd5cdc7d734f7335fc2354813ecb532a58e1fd37c89ef327a", func := "citadel/citadellaw09.FrameMany", spec := "frameMany", inPlace := ["sync/atomic.LoadUint32", "(*internal/sync.Mutex).Lock", "internal/race.Disable", "sync/atomic.CompareAndSwapInt32", "internal/race.Enable", "internal/race.Acquire", "(*internal/sync.Mutex).lockSlow", "internal/sync.runtime_canSpin", "internal/sync.runtime_doSpin", "internal/sync.throw", "internal/sync.runtime_nanotime", "internal/sync.runtime_SemacquireMutex", "sync/atomic.AddInt32", "(*internal/sync.Mutex).Unlock", "internal/race.ReleaseMerge", "(*internal/sync.Mutex).unlockSlow", "internal/sync.fatal", "internal/sync.runtime_Semrelease", "sync/atomic.StoreUint32", "sync/atomic.StoreUint64", "sync/atomic.AndUint64", "sync/atomic.LoadUint64"], unfollowed := true, recurses := true, apart := false }
def FrameManySaid : Prop := frameManyRow.holds Try.pinned (OpenSpec.ofChange frameManySpec)

/-- ITS FALSE NEIGHBOUR: 'it returns false'. Refute it at one input. -/
def frameManyWrong : ChangeSpec := { name := "frameMany", fn := fun _ => fun
  | [d1, d2, d3, d4] => { results := [.lit (.bool false)], args := [d1, d2, d3, d4] }
  | _ => none }
def FrameManyWrongFalsely : Prop := frameManyRow.holds Try.pinned (OpenSpec.ofChange frameManyWrong)

/-- 'citadellaw09.FramePlays': WHATEVER THE INPUT: true; the input reads as it did. -/
def framePlaysSpec : ChangeSpec := { name := "framePlays", fn := fun _ => fun
  | [d1, d2, d3, d4] => { results := [.lit (.bool true)], args := [d1, d2, d3, d4] }
  | _ => none }
def framePlaysRow : OpenClaim := { program := "ytpodeclkgcgpgaa", sum := "ac6967f1bca12e1bd5cdc7d734f7335fc2354813ecb532a58e1fd37c89ef327a", func := "citadel/citadellaw09.FramePlays", spec := "framePlays", inPlace := ["sync/atomic.LoadUint32", "(*internal/sync.Mutex).Lock", "internal/race.Disable", "sync/atomic.CompareAndSwapInt32", "internal/race.Enable", "internal/race.Acquire", "(*internal/sync.Mutex).lockSlow", "internal/sync.runtime_canSpin", "internal/sync.runtime_doSpin", "internal/sync.throw", "internal/sync.runtime_nanotime", "internal/sync.runtime_SemacquireMutex", "sync/atomic.AddInt32", "(*internal/sync.Mutex).Unlock", "internal/race.ReleaseMerge", "(*internal/sync.Mutex).unlockSlow", "internal/sync.fatal", "internal/sync.runtime_Semrelease", "sync/atomic.StoreUint32", "sync/atomic.StoreUint64", "sync/atomic.AndUint64", "sync/atomic.LoadUint64"], unfollowed := true, recurses := true, apart := false }
def FramePlaysSaid : Prop := framePlaysRow.holds Try.pinned (OpenSpec.ofChange framePlaysSpec)

/-- ITS FALSE NEIGHBOUR: 'it returns false'. Refute it at one input. -/
def framePlaysWrong : ChangeSpec := { name := "framePlays", fn := fun _ => fun
  | [d1, d2, d3, d4] => { results := [.lit (.bool false)], args := [d1, d2, d3, d4] }
  | _ => none }
def FramePlaysWrongFalsely : Prop := framePlaysRow.holds Try.pinned (OpenSpec.ofChange framePlaysWrong)

/-- 'citadellaw10.StageMemory': WHATEVER THE INPUT: true; the input reads as it did. -/
def stageMemorySpec : ChangeSpec := { name := "stageMemory", fn := fun _ => fun
  | [d1, d2, d3, d4] => { results := [.lit (.bool true)], args := [d1, d2, d3, d4] }
  | _ => none }
def stageMemoryRow : OpenClaim := { program := "ytpodeclkgcgpgaa", sum := "ac6967f1bca12e1bd5cdc7d734f7335fc2354813ecb532a58e1fd37c89ef327a", func := "citadel/citadellaw10.StageMemory", spec := "stageMemory", apart := false }
def StageMemorySaid : Prop := stageMemoryRow.holds Try.pinned (OpenSpec.ofChange stageMemorySpec)

/-- ITS FALSE NEIGHBOUR: 'it returns false'. Refute it at one input. -/
def stageMemoryWrong : ChangeSpec := { name := "stageMemory", fn := fun _ => fun
  | [d1, d2, d3, d4] => { results := [.lit (.bool false)], args := [d1, d2, d3, d4] }
  | _ => none }
def StageMemoryWrongFalsely : Prop := stageMemoryRow.holds Try.pinned (OpenSpec.ofChange stageMemoryWrong)

/-- 'citadellaw10.StageVmids': WHATEVER THE INPUT: true; the input reads as it did. -/
def stageVmidsSpec : ChangeSpec := { name := "stageVmids", fn := fun _ => fun
  | [d] => { results := [.lit (.bool true)], args := [d] }
  | _ => none }
def stageVmidsRow : OpenClaim := { program := "ytpodeclkgcgpgaa", sum := "ac6967f1bca12e1bd5cdc7d734f7335fc2354813ecb532a58e1fd37c89ef327a", func := "citadel/citadellaw10.StageVmids", spec := "stageVmids", apart := false }
def StageVmidsSaid : Prop := stageVmidsRow.holds Try.pinned (OpenSpec.ofChange stageVmidsSpec)

/-- ITS FALSE NEIGHBOUR: 'it returns false'. Refute it at one input. -/
def stageVmidsWrong : ChangeSpec := { name := "stageVmids", fn := fun _ => fun
  | [d] => { results := [.lit (.bool false)], args := [d] }
  | _ => none }
def StageVmidsWrongFalsely : Prop := stageVmidsRow.holds Try.pinned (OpenSpec.ofChange stageVmidsWrong)

/-- 'citadellaw10.StageFull': WHATEVER THE INPUT: true; the input reads as it did. -/
def stageFullSpec : ChangeSpec := { name := "stageFull", fn := fun _ => fun
  | [d1, d2] => { results := [.lit (.bool true)], args := [d1, d2] }
  | _ => none }
def stageFullRow : OpenClaim := { program := "ytpodeclkgcgpgaa", sum := "ac6967f1bca12e1bd5cdc7d734f7335fc2354813ecb532a58e1fd37c89ef327a", func := "citadel/citadellaw10.StageFull", spec := "stageFull", unfollowed := true, recurses := true, apart := false }
def StageFullSaid : Prop := stageFullRow.holds Try.pinned (OpenSpec.ofChange stageFullSpec)

/-- ITS FALSE NEIGHBOUR: 'it returns false'. Refute it at one input. -/
def stageFullWrong : ChangeSpec := { name := "stageFull", fn := fun _ => fun
  | [d1, d2] => { results := [.lit (.bool false)], args := [d1, d2] }
  | _ => none }
def StageFullWrongFalsely : Prop := stageFullRow.holds Try.pinned (OpenSpec.ofChange stageFullWrong)

/-- 'citadellaw10.StagePlays': WHATEVER THE INPUT: true; the input reads as it did. -/
def stagePlaysSpec : ChangeSpec := { name := "stagePlays", fn := fun _ => fun
  | [d1, d2, d3, d4] => { results := [.lit (.bool true)], args := [d1, d2, d3, d4] }
  | _ => none }
def stagePlaysRow : OpenClaim := { program := "ytpodeclkgcgpgaa", sum := "ac6967f1bca12e1bd5cdc7d734f7335fc2354813ecb532a58e1fd37c89ef327a", func := "citadel/citadellaw10.StagePlays", spec := "stagePlays", unfollowed := true, recurses := true, apart := false }
def StagePlaysSaid : Prop := stagePlaysRow.holds Try.pinned (OpenSpec.ofChange stagePlaysSpec)

/-- ITS FALSE NEIGHBOUR: 'it returns false'. Refute it at one input. -/
def stagePlaysWrong : ChangeSpec := { name := "stagePlays", fn := fun _ => fun
  | [d1, d2, d3, d4] => { results := [.lit (.bool false)], args := [d1, d2, d3, d4] }
  | _ => none }
def StagePlaysWrongFalsely : Prop := stagePlaysRow.holds Try.pinned (OpenSpec.ofChange stagePlaysWrong)

/-- 'citadellaw10.StageRights': WHATEVER THE INPUT: true; the input reads as it did. -/
def stageRightsSpec : ChangeSpec := { name := "stageRights", fn := fun _ => fun
  | [d1, d2, d3] => { results := [.lit (.bool true)], args := [d1, d2, d3] }
  | _ => none }
def stageRightsRow : OpenClaim := { program := "ytpodeclkgcgpgaa", sum := "ac6967f1bca12e1bd5cdc7d734f7335fc2354813ecb532a58e1fd37c89ef327a", func := "citadel/citadellaw10.StageRights", spec := "stageRights", unfollowed := true, recurses := true, apart := false }
def StageRightsSaid : Prop := stageRightsRow.holds Try.pinned (OpenSpec.ofChange stageRightsSpec)

/-- ITS FALSE NEIGHBOUR: 'it returns false'. Refute it at one input. -/
def stageRightsWrong : ChangeSpec := { name := "stageRights", fn := fun _ => fun
  | [d1, d2, d3] => { results := [.lit (.bool false)], args := [d1, d2, d3] }
  | _ => none }
def StageRightsWrongFalsely : Prop := stageRightsRow.holds Try.pinned (OpenSpec.ofChange stageRightsWrong)

/-- 'citadellaw10.StageShoots': WHATEVER THE INPUT: true; the input reads as it did. -/
def stageShootsSpec : ChangeSpec := { name := "stageShoots", fn := fun _ => fun
  | [d1, d2] => { results := [.lit (.bool true)], args := [d1, d2] }
  | _ => none }
def stageShootsRow : OpenClaim := { program := "ytpodeclkgcgpgaa", sum := "ac6967f1bca12e1bd5cdc7d734f7335fc2354813ecb532a58e1fd37c89ef327a", func := "citadel/citadellaw10.StageShoots", spec := "stageShoots", inPlace := ["sync/atomic.OrUint32", "sync/atomic.LoadUint32", "sync/atomic.StoreUint32"], unfollowed := true, recurses := true, apart := false }
def StageShootsSaid : Prop := stageShootsRow.holds Try.pinned (OpenSpec.ofChange stageShootsSpec)

/-- ITS FALSE NEIGHBOUR: 'it returns false'. Refute it at one input. -/
def stageShootsWrong : ChangeSpec := { name := "stageShoots", fn := fun _ => fun
  | [d1, d2] => { results := [.lit (.bool false)], args := [d1, d2] }
  | _ => none }
def StageShootsWrongFalsely : Prop := stageShootsRow.holds Try.pinned (OpenSpec.ofChange stageShootsWrong)

/-- 'citadellaw10.StageForgets': WHATEVER THE INPUT: true; the input reads as it did. -/
def stageForgetsSpec : ChangeSpec := { name := "stageForgets", fn := fun _ => fun
  | [d1, d2, d3, d4] => { results := [.lit (.bool true)], args := [d1, d2, d3, d4] }
  | _ => none }
def stageForgetsRow : OpenClaim := { program := "ytpodeclkgcgpgaa", sum := "ac6967f1bca12e1bd5cdc7d734f7335fc2354813ecb532a58e1fd37c89ef327a", func := "citadel/citadellaw10.StageForgets", spec := "stageForgets", inPlace := ["sync/atomic.OrUint32", "sync/atomic.LoadUint32", "sync/atomic.StoreUint32"], unfollowed := true, recurses := true, apart := false }
def StageForgetsSaid : Prop := stageForgetsRow.holds Try.pinned (OpenSpec.ofChange stageForgetsSpec)

/-- ITS FALSE NEIGHBOUR: 'it returns false'. Refute it at one input. -/
def stageForgetsWrong : ChangeSpec := { name := "stageForgets", fn := fun _ => fun
  | [d1, d2, d3, d4] => { results := [.lit (.bool false)], args := [d1, d2, d3, d4] }
  | _ => none }
def StageForgetsWrongFalsely : Prop := stageForgetsRow.holds Try.pinned (OpenSpec.ofChange stageForgetsWrong)

/-- 'citadellaw10.StageApart': WHATEVER THE INPUT: true; the input reads as it did. -/
def stageApartSpec : ChangeSpec := { name := "stageApart", fn := fun _ => fun
  | [d1, d2, d3, d4] => { results := [.lit (.bool true)], args := [d1, d2, d3, d4] }
  | _ => none }
def stageApartRow : OpenClaim := { program := "ytpodeclkgcgpgaa", sum := "ac6967f1bca12e1bd5cdc7d734f7335fc2354813ecb532a58e1fd37c89ef327a", func := "citadel/citadellaw10.StageApart", spec := "stageApart", unfollowed := true, recurses := true, apart := false }
def StageApartSaid : Prop := stageApartRow.holds Try.pinned (OpenSpec.ofChange stageApartSpec)

/-- ITS FALSE NEIGHBOUR: 'it returns false'. Refute it at one input. -/
def stageApartWrong : ChangeSpec := { name := "stageApart", fn := fun _ => fun
  | [d1, d2, d3, d4] => { results := [.lit (.bool false)], args := [d1, d2, d3, d4] }
  | _ => none }
def StageApartWrongFalsely : Prop := stageApartRow.holds Try.pinned (OpenSpec.ofChange stageApartWrong)

/-- 'citadellaw10.StageTables': WHATEVER THE INPUT: true; the input reads as it did. -/
def stageTablesSpec : ChangeSpec := { name := "stageTables", fn := fun _ => fun
  | [d1, d2, d3, d4] => { results := [.lit (.bool true)], args := [d1, d2, d3, d4] }
  | _ => none }
def stageTablesRow : OpenClaim := { program := "ytpodeclkgcgpgaa", sum := "ac6967f1bca12e1bd5cdc7d734f7335fc2354813ecb532a58e1fd37c89ef327a", func := "citadel/citadellaw10.StageTables", spec := "stageTables", unfollowed := true, recurses := true, apart := false }
def StageTablesSaid : Prop := stageTablesRow.holds Try.pinned (OpenSpec.ofChange stageTablesSpec)

/-- ITS FALSE NEIGHBOUR: 'it returns false'. Refute it at one input. -/
def stageTablesWrong : ChangeSpec := { name := "stageTables", fn := fun _ => fun
  | [d1, d2, d3, d4] => { results := [.lit (.bool false)], args := [d1, d2, d3, d4] }
  | _ => none }
def StageTablesWrongFalsely : Prop := stageTablesRow.holds Try.pinned (OpenSpec.ofChange stageTablesWrong)

/- THE SECOND FORM. 'bulk': how many values and letters a reading holds, each counted each time it is reached (what is shared counts as often as it is met; a slice's spare places count too). A statement '..UptoSaid' is the law's where the arguments, and the package variables that the reading takes, are together of bulk at most 1048576: NARROWER than '..Said'. Prove '..Said' where nothing that the law and all that it calls make is longer than what came in: it says more and counts as full. Else prove '..UptoSaid'. A law counts once. -/
mutual
def uptoBulk {H : Type} : DataW H → Nat
  | .lit (.string bytes) => bytes.length + 1
  | .lit _ => 1
  | .nil => 1
  | .ptr d => uptoBulk d + 1
  | .slice elems spare => uptoBulkAll elems + uptoBulkAll spare + 1
  | .agg parts => uptoBulkAll parts + 1
  | .iface _ d => uptoBulk d + 1
  | .map entries => uptoBulkEntries entries + 1
  | .held _ => 1
def uptoBulkAll {H : Type} : List (DataW H) → Nat
  | [] => 0
  | d :: r => uptoBulk d + uptoBulkAll r
def uptoBulkEntries {H : Type} : List (Lit × DataW H) → Nat
  | [] => 0
  | x :: r => uptoBulkEntry x + uptoBulkEntries r
def uptoBulkEntry {H : Type} : Lit × DataW H → Nat
  | (.string bytes, d) => bytes.length + uptoBulk d + 1
  | (_, d) => uptoBulk d + 1
 end
def uptoSmall : (H : Type) → List (DataW H) → Bool := fun _ ds => decide (uptoBulkAll ds ≤ 1048576)
def OpenSpec.upto (s : _root_.Go.ChangeSpec) : _root_.Go.OpenSpec := { _root_.Go.OpenSpec.ofChange s with cond := some uptoSmall }

/-- 'citadellaw09.FrameReserved', WHERE WHAT IT READS IS OF BULK AT MOST 1048576: true; the input reads as it did. -/
def frameReservedUptoRow : OpenClaim := { program := "ytpodeclkgcgpgaa", sum := "ac6967f1bca12e1bd5cdc7d734f7335fc2354813ecb532a58e1fd37c89ef327a", func := "citadel/citadellaw09.FrameReserved", spec := "frameReserved", inPlace := ["sync/atomic.LoadUint32", "(*internal/sync.Mutex).Lock", "internal/race.Disable", "sync/atomic.CompareAndSwapInt32", "internal/race.Enable", "internal/race.Acquire", "(*internal/sync.Mutex).lockSlow", "internal/sync.runtime_canSpin", "internal/sync.runtime_doSpin", "internal/sync.throw", "internal/sync.runtime_nanotime", "internal/sync.runtime_SemacquireMutex", "sync/atomic.AddInt32", "(*internal/sync.Mutex).Unlock", "internal/race.ReleaseMerge", "(*internal/sync.Mutex).unlockSlow", "internal/sync.fatal", "internal/sync.runtime_Semrelease", "sync/atomic.StoreUint32", "sync/atomic.StoreUint64", "sync/atomic.AndUint64", "sync/atomic.LoadUint64"], unfollowed := true, recurses := true, apart := false, narrowed := true }
def FrameReservedUptoSaid : Prop := frameReservedUptoRow.holds Try.pinned (OpenSpec.upto frameReservedSpec)

/-- 'citadellaw09.FrameCounts', WHERE WHAT IT READS IS OF BULK AT MOST 1048576: true; the input reads as it did. -/
def frameCountsUptoRow : OpenClaim := { program := "ytpodeclkgcgpgaa", sum := "ac6967f1bca12e1bd5cdc7d734f7335fc2354813ecb532a58e1fd37c89ef327a", func := "citadel/citadellaw09.FrameCounts", spec := "frameCounts", inPlace := ["sync/atomic.LoadUint32", "(*internal/sync.Mutex).Lock", "internal/race.Disable", "sync/atomic.CompareAndSwapInt32", "internal/race.Enable", "internal/race.Acquire", "(*internal/sync.Mutex).lockSlow", "internal/sync.runtime_canSpin", "internal/sync.runtime_doSpin", "internal/sync.throw", "internal/sync.runtime_nanotime", "internal/sync.runtime_SemacquireMutex", "sync/atomic.AddInt32", "(*internal/sync.Mutex).Unlock", "internal/race.ReleaseMerge", "(*internal/sync.Mutex).unlockSlow", "internal/sync.fatal", "internal/sync.runtime_Semrelease", "sync/atomic.StoreUint32", "sync/atomic.StoreUint64", "sync/atomic.AndUint64", "sync/atomic.LoadUint64"], unfollowed := true, recurses := true, apart := false, narrowed := true }
def FrameCountsUptoSaid : Prop := frameCountsUptoRow.holds Try.pinned (OpenSpec.upto frameCountsSpec)

/-- 'citadellaw09.FrameRound', WHERE WHAT IT READS IS OF BULK AT MOST 1048576: true; the input reads as it did. -/
def frameRoundUptoRow : OpenClaim := { program := "ytpodeclkgcgpgaa", sum := "ac6967f1bca12e1bd5cdc7d734f7335fc2354813ecb532a58e1fd37c89ef327a", func := "citadel/citadellaw09.FrameRound", spec := "frameRound", inPlace := ["sync/atomic.LoadUint32", "(*internal/sync.Mutex).Lock", "internal/race.Disable", "sync/atomic.CompareAndSwapInt32", "internal/race.Enable", "internal/race.Acquire", "(*internal/sync.Mutex).lockSlow", "internal/sync.runtime_canSpin", "internal/sync.runtime_doSpin", "internal/sync.throw", "internal/sync.runtime_nanotime", "internal/sync.runtime_SemacquireMutex", "sync/atomic.AddInt32", "(*internal/sync.Mutex).Unlock", "internal/race.ReleaseMerge", "(*internal/sync.Mutex).unlockSlow", "internal/sync.fatal", "internal/sync.runtime_Semrelease", "sync/atomic.StoreUint32", "sync/atomic.StoreUint64", "sync/atomic.AndUint64", "sync/atomic.LoadUint64"], unfollowed := true, recurses := true, apart := false, narrowed := true }
def FrameRoundUptoSaid : Prop := frameRoundUptoRow.holds Try.pinned (OpenSpec.upto frameRoundSpec)

/-- 'citadellaw09.FrameMany', WHERE WHAT IT READS IS OF BULK AT MOST 1048576: true; the input reads as it did. -/
def frameManyUptoRow : OpenClaim := { program := "ytpodeclkgcgpgaa", sum := "ac6967f1bca12e1bd5cdc7d734f7335fc2354813ecb532a58e1fd37c89ef327a", func := "citadel/citadellaw09.FrameMany", spec := "frameMany", inPlace := ["sync/atomic.LoadUint32", "(*internal/sync.Mutex).Lock", "internal/race.Disable", "sync/atomic.CompareAndSwapInt32", "internal/race.Enable", "internal/race.Acquire", "(*internal/sync.Mutex).lockSlow", "internal/sync.runtime_canSpin", "internal/sync.runtime_doSpin", "internal/sync.throw", "internal/sync.runtime_nanotime", "internal/sync.runtime_SemacquireMutex", "sync/atomic.AddInt32", "(*internal/sync.Mutex).Unlock", "internal/race.ReleaseMerge", "(*internal/sync.Mutex).unlockSlow", "internal/sync.fatal", "internal/sync.runtime_Semrelease", "sync/atomic.StoreUint32", "sync/atomic.StoreUint64", "sync/atomic.AndUint64", "sync/atomic.LoadUint64"], unfollowed := true, recurses := true, apart := false, narrowed := true }
def FrameManyUptoSaid : Prop := frameManyUptoRow.holds Try.pinned (OpenSpec.upto frameManySpec)

/-- 'citadellaw09.FramePlays', WHERE WHAT IT READS IS OF BULK AT MOST 1048576: true; the input reads as it did. -/
def framePlaysUptoRow : OpenClaim := { program := "ytpodeclkgcgpgaa", sum := "ac6967f1bca12e1bd5cdc7d734f7335fc2354813ecb532a58e1fd37c89ef327a", func := "citadel/citadellaw09.FramePlays", spec := "framePlays", inPlace := ["sync/atomic.LoadUint32", "(*internal/sync.Mutex).Lock", "internal/race.Disable", "sync/atomic.CompareAndSwapInt32", "internal/race.Enable", "internal/race.Acquire", "(*internal/sync.Mutex).lockSlow", "internal/sync.runtime_canSpin", "internal/sync.runtime_doSpin", "internal/sync.throw", "internal/sync.runtime_nanotime", "internal/sync.runtime_SemacquireMutex", "sync/atomic.AddInt32", "(*internal/sync.Mutex).Unlock", "internal/race.ReleaseMerge", "(*internal/sync.Mutex).unlockSlow", "internal/sync.fatal", "internal/sync.runtime_Semrelease", "sync/atomic.StoreUint32", "sync/atomic.StoreUint64", "sync/atomic.AndUint64", "sync/atomic.LoadUint64"], unfollowed := true, recurses := true, apart := false, narrowed := true }
def FramePlaysUptoSaid : Prop := framePlaysUptoRow.holds Try.pinned (OpenSpec.upto framePlaysSpec)

/-- 'citadellaw10.StageMemory', WHERE WHAT IT READS IS OF BULK AT MOST 1048576: true; the input reads as it did. -/
def stageMemoryUptoRow : OpenClaim := { program := "ytpodeclkgcgpgaa", sum := "ac6967f1bca12e1bd5cdc7d734f7335fc2354813ecb532a58e1fd37c89ef327a", func := "citadel/citadellaw10.StageMemory", spec := "stageMemory", apart := false, narrowed := true }
def StageMemoryUptoSaid : Prop := stageMemoryUptoRow.holds Try.pinned (OpenSpec.upto stageMemorySpec)

/-- 'citadellaw10.StageVmids', WHERE WHAT IT READS IS OF BULK AT MOST 1048576: true; the input reads as it did. -/
def stageVmidsUptoRow : OpenClaim := { program := "ytpodeclkgcgpgaa", sum := "ac6967f1bca12e1bd5cdc7d734f7335fc2354813ecb532a58e1fd37c89ef327a", func := "citadel/citadellaw10.StageVmids", spec := "stageVmids", apart := false, narrowed := true }
def StageVmidsUptoSaid : Prop := stageVmidsUptoRow.holds Try.pinned (OpenSpec.upto stageVmidsSpec)

/-- 'citadellaw10.StageFull', WHERE WHAT IT READS IS OF BULK AT MOST 1048576: true; the input reads as it did. -/
def stageFullUptoRow : OpenClaim := { program := "ytpodeclkgcgpgaa", sum := "ac6967f1bca12e1bd5cdc7d734f7335fc2354813ecb532a58e1fd37c89ef327a", func := "citadel/citadellaw10.StageFull", spec := "stageFull", unfollowed := true, recurses := true, apart := false, narrowed := true }
def StageFullUptoSaid : Prop := stageFullUptoRow.holds Try.pinned (OpenSpec.upto stageFullSpec)

/-- 'citadellaw10.StagePlays', WHERE WHAT IT READS IS OF BULK AT MOST 1048576: true; the input reads as it did. -/
def stagePlaysUptoRow : OpenClaim := { program := "ytpodeclkgcgpgaa", sum := "ac6967f1bca12e1bd5cdc7d734f7335fc2354813ecb532a58e1fd37c89ef327a", func := "citadel/citadellaw10.StagePlays", spec := "stagePlays", unfollowed := true, recurses := true, apart := false, narrowed := true }
def StagePlaysUptoSaid : Prop := stagePlaysUptoRow.holds Try.pinned (OpenSpec.upto stagePlaysSpec)

/-- 'citadellaw10.StageRights', WHERE WHAT IT READS IS OF BULK AT MOST 1048576: true; the input reads as it did. -/
def stageRightsUptoRow : OpenClaim := { program := "ytpodeclkgcgpgaa", sum := "ac6967f1bca12e1bd5cdc7d734f7335fc2354813ecb532a58e1fd37c89ef327a", func := "citadel/citadellaw10.StageRights", spec := "stageRights", unfollowed := true, recurses := true, apart := false, narrowed := true }
def StageRightsUptoSaid : Prop := stageRightsUptoRow.holds Try.pinned (OpenSpec.upto stageRightsSpec)

/-- 'citadellaw10.StageShoots', WHERE WHAT IT READS IS OF BULK AT MOST 1048576: true; the input reads as it did. -/
def stageShootsUptoRow : OpenClaim := { program := "ytpodeclkgcgpgaa", sum := "ac6967f1bca12e1bd5cdc7d734f7335fc2354813ecb532a58e1fd37c89ef327a", func := "citadel/citadellaw10.StageShoots", spec := "stageShoots", inPlace := ["sync/atomic.OrUint32", "sync/atomic.LoadUint32", "sync/atomic.StoreUint32"], unfollowed := true, recurses := true, apart := false, narrowed := true }
def StageShootsUptoSaid : Prop := stageShootsUptoRow.holds Try.pinned (OpenSpec.upto stageShootsSpec)

/-- 'citadellaw10.StageForgets', WHERE WHAT IT READS IS OF BULK AT MOST 1048576: true; the input reads as it did. -/
def stageForgetsUptoRow : OpenClaim := { program := "ytpodeclkgcgpgaa", sum := "ac6967f1bca12e1bd5cdc7d734f7335fc2354813ecb532a58e1fd37c89ef327a", func := "citadel/citadellaw10.StageForgets", spec := "stageForgets", inPlace := ["sync/atomic.OrUint32", "sync/atomic.LoadUint32", "sync/atomic.StoreUint32"], unfollowed := true, recurses := true, apart := false, narrowed := true }
def StageForgetsUptoSaid : Prop := stageForgetsUptoRow.holds Try.pinned (OpenSpec.upto stageForgetsSpec)

/-- 'citadellaw10.StageApart', WHERE WHAT IT READS IS OF BULK AT MOST 1048576: true; the input reads as it did. -/
def stageApartUptoRow : OpenClaim := { program := "ytpodeclkgcgpgaa", sum := "ac6967f1bca12e1bd5cdc7d734f7335fc2354813ecb532a58e1fd37c89ef327a", func := "citadel/citadellaw10.StageApart", spec := "stageApart", unfollowed := true, recurses := true, apart := false, narrowed := true }
def StageApartUptoSaid : Prop := stageApartUptoRow.holds Try.pinned (OpenSpec.upto stageApartSpec)

/-- 'citadellaw10.StageTables', WHERE WHAT IT READS IS OF BULK AT MOST 1048576: true; the input reads as it did. -/
def stageTablesUptoRow : OpenClaim := { program := "ytpodeclkgcgpgaa", sum := "ac6967f1bca12e1bd5cdc7d734f7335fc2354813ecb532a58e1fd37c89ef327a", func := "citadel/citadellaw10.StageTables", spec := "stageTables", unfollowed := true, recurses := true, apart := false, narrowed := true }
def StageTablesUptoSaid : Prop := stageTablesUptoRow.holds Try.pinned (OpenSpec.upto stageTablesSpec)

end Rows
end Go.Proofs.Ytpodeclkgcgpgaa
