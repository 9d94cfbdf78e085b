import Derived.Test.YtlgcplekcmocbaaIoE
/- IommuAlone, of integers. -/
namespace Go.Proofs.Ytlgcplekcmocbaa
open Go.RowKit
theorem alone_callsI (w : World) (v : Value) (cs : List (Int × Nat)) (hv : CellsAt w v cs) (hlen : cs.length ≤ maxLen) (hb : ∀ x ∈ cs, -9223372036854775808 ≤ x.1 ∧ x.1 ≤ 9223372036854775807 ∧ x.2 < 18446744073709551616)
    (root other : Int) (hroot : 0 ≤ root ∧ root ≤ 18446744073709551615) (hother : 0 ≤ other ∧ other ≤ 18446744073709551615) (A : Option Addr) (cap : Nat) (L : List OpR) (hL : OpsAt w (.slice A L.length cap) L) (hLb : ∀ o ∈ L, OpB o) (hLl : L.length ≤ cap) (hLc : cap ≤ maxLen)
    (B : Option Addr) (capB : Nat) (M : List OpR) (hM : OpsAt w (.slice B M.length capB) M) (hMb : ∀ o ∈ M, OpB o) (hMl : M.length ≤ capB) (hMc : capB ≤ maxLen) :
    Calls Try.prog 4 #[v, .int .u64 root, .int .u64 other, .slice A L.length cap, .slice B M.length capB] w fun e w' => e = .returned (.bool true) ∧ Upd (fun _ => False) w w' := by
  obtain ⟨r, rfl⟩ := Int.eq_ofNat_of_zero_le hroot.1
  obtain ⟨o, rfl⟩ := Int.eq_ofNat_of_zero_le hother.1
  exact alone_calls w v cs hv (by unfold maxLen at hlen; omega) hb r o (by omega) (by omega) A cap L hL hLb ⟨hLl, by unfold maxLen at hLc; omega⟩ B capB M hM hMb ⟨hMl, by unfold maxLen at hMc; omega⟩
end Go.Proofs.Ytlgcplekcmocbaa
