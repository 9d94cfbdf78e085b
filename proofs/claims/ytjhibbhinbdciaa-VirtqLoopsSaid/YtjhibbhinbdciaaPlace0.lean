import Derived.Test.YtjhibbhinbdciaaBase
import Derived.Test.YtjhibbhinbdciaaChecked
/- citadellaw00.Place. -/
namespace Go.Proofs.Ytjhibbhinbdciaa
set_option linter.unusedVariables false
open Go.RowKit
set_option maxRecDepth 100000

theorem place_calls (v n : Int) (w : World) (hv0 : -9223372036854775808 ≤ v) (hv1 : v ≤ 9223372036854775807) (hn : 0 < n) (hn1 : n ≤ 1000000) :
    Calls Try.prog 12 #[.int .i64 v, .int .i64 n] w fun e w' => e = .returned (.int .i64 (v % n)) ∧ w = w' := by
  have hz : (n == 0) = false := by simp; omega
  go_enter Try.func12, Try.ntmps12
  have ht := Int.tmod_eq_emod (a := v) (b := n)
  have h0 := Int.emod_nonneg v (Int.ne_of_gt hn)
  have h1 := Int.emod_lt_of_pos v hn
  have HT := Lib.hid ht
  clear ht
  go_wp2
  · rename_i hlt
    go_ret
    refine ⟨?_, rfl⟩
    have ht := HT.out
    split at ht
    · rw [ht] at hlt; omega
    · rw [show (n.natAbs : Int) = n from by omega] at ht
      show Ending.returned (.int .i64 (wrap64 (v.tmod n + n))) = _
      rw [ht, show v % n - n + n = v % n from by omega, IntWalk.wrap64_in _ (by omega)]
  · rename_i hlt
    go_ret
    refine ⟨?_, rfl⟩
    have ht := HT.out
    split at ht
    · rw [show v.tmod n = v % n from by rw [ht]; simp]; rfl
    · rw [show (n.natAbs : Int) = n from by omega] at ht; omega

theorem Reads.first {w : World} {B size n : Nat} {A : Option Addr} {xs : List Value} (h : Reads w B size A n xs) (hn : 0 < n) (hs : 0 < size) : ∃ b o, A = some ⟨b, o, none⟩ ∧ b < B ∧ ∀ j u, xs[j]? = some u → w.cell? ⟨b, o + j, none⟩ = some u := by
  obtain ⟨ad, rfl, hb, hc⟩ := h.2 hn
  have hl : 0 < xs.length := by rw [h.1]; exact Nat.mul_pos hn hs
  have h0 := hc 0 _ (List.getElem?_eq_getElem hl)
  obtain ⟨b, o, sp⟩ := ad
  cases sp with
  | some k =>
    simp only [Addr.add, if_true] at h0
    unfold World.cell? at h0
    split at h0 <;> simp at h0
  | none =>
    refine ⟨b, o, rfl, hb, fun j u hu => ?_⟩
    have := hc j u hu
    rwa [Addr.add_lit] at this
end Go.Proofs.Ytjhibbhinbdciaa
