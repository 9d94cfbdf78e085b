import Derived.Test.YtlgcplekcmocbaaIoF
/- IommuForgets, of integers. -/
namespace Go.Proofs.Ytlgcplekcmocbaa
open Go.RowKit
theorem forgets_callsI (w : World) (v : Value) (cs : List (Int × Nat)) (hv : CellsAt w v cs) (hlen : cs.length ≤ maxLen) (hb : ∀ x ∈ cs, -9223372036854775808 ≤ x.1 ∧ x.1 ≤ 9223372036854775807 ∧ x.2 < 18446744073709551616)
    (root : Int) (hroot : 0 ≤ root ∧ root ≤ 18446744073709551615) (A : Option Addr) (cap : Nat) (L : List OpR) (hL : OpsAt w (.slice A L.length cap) L) (hLb : ∀ o ∈ L, OpB o) (hLl : L.length ≤ maxLen) :
    Calls Try.prog 7 #[v, .int .u64 root, .slice A L.length cap] w fun e w' => e = .returned (.bool true) ∧ Upd (fun _ => False) w w' := by
  obtain ⟨r, rfl⟩ := Int.eq_ofNat_of_zero_le hroot.1
  exact forgets_calls w v cs hv (by unfold maxLen at hlen; omega) hb r (by omega) A cap L hL hLb (by unfold maxLen at hLl; omega)
end Go.Proofs.Ytlgcplekcmocbaa
