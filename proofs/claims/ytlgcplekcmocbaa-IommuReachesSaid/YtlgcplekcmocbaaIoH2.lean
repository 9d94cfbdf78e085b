import Derived.Test.YtlgcplekcmocbaaIoH
/- IommuReaches, of integers. -/
namespace Go.Proofs.Ytlgcplekcmocbaa
open Go.RowKit
theorem reaches_callsI (slot number bs addr : Int) (wr : Bool) (h0 : -9223372036854775808 ≤ slot ∧ slot ≤ 9223372036854775807) (h1 : 0 ≤ number ∧ number ≤ 18446744073709551615) (h2 : -9223372036854775808 ≤ bs ∧ bs ≤ 9223372036854775807) (h3 : 0 ≤ addr ∧ addr ≤ 18446744073709551615) (w : World) :
    Calls Try.prog 8 #[.int .i64 slot, .int .u64 number, .int .i64 bs, .int .u64 addr, .bool wr] w fun e w' => e = .returned (.bool true) ∧ Upd (fun _ => False) w w' := by
  obtain ⟨r, rfl⟩ := Int.eq_ofNat_of_zero_le h1.1
  obtain ⟨o, rfl⟩ := Int.eq_ofNat_of_zero_le h3.1
  exact reaches_calls slot r bs o wr h0 (by omega) h2 (by omega) w
end Go.Proofs.Ytlgcplekcmocbaa
