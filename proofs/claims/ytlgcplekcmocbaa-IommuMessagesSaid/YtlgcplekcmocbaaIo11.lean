import Derived.Test.YtlgcplekcmocbaaIo10
namespace Go.Proofs.Ytlgcplekcmocbaa
open Go.RowKit
theorem messages_callsI (dev index addr other : Int) (b0 : -9223372036854775808 ≤ dev ∧ dev ≤ 9223372036854775807) (b1 : 0 ≤ index ∧ index ≤ 18446744073709551615) (b3 : 0 ≤ addr ∧ addr ≤ 18446744073709551615) (b4 : 0 ≤ other ∧ other ≤ 18446744073709551615) (A : Option Addr) (cap : Nat) (os : List Int) (w : World)
    (hrd : Reads w w.heap.size 1 A os.length (os.map (.int .i64))) (hm : os.length ≤ 9223372036854775807) (ho : ∀ z ∈ os, (-9223372036854775808 ≤ z ∧ z ≤ 9223372036854775807)) :
    Calls Try.prog 3 #[.int .i64 dev, .int .u64 index, .slice A os.length cap, .int .u64 addr, .int .u64 other] w fun e w' => e = .returned (.bool true) ∧ Upd (fun _ => False) w w' := by
  obtain ⟨i, rfl⟩ := Int.eq_ofNat_of_zero_le b1.1
  obtain ⟨a, rfl⟩ := Int.eq_ofNat_of_zero_le b3.1
  obtain ⟨o, rfl⟩ := Int.eq_ofNat_of_zero_le b4.1
  exact messages_calls dev b0.1 b0.2 i a o (by omega) (by omega) (by omega) A cap os w hrd hm ho
end Go.Proofs.Ytlgcplekcmocbaa
