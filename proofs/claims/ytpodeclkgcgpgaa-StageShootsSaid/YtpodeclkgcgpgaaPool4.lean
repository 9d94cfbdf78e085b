import Derived.Test.YtpodeclkgcgpgaaPool3
namespace Go.Proofs.Ytpodeclkgcgpgaa
set_option linter.unusedVariables false
open Go.RowKit
set_option maxRecDepth 100000

section
variable {own own' : Nat → Nat} {c pp rp qo qb n : Nat} {res harts : Int} {d : Bool} {ow bt : List Int} {w w' : World}
def okO (o : Int) : Bool := decide (o = -1 ∨ (1 ≤ o ∧ o ≤ 8))
theorem okO_iff {o : Int} : okO o = true ↔ (o = -1 ∨ (1 ≤ o ∧ o ≤ 8)) := by simp [okO]
/-- the first free frame -/
def freeP (ow : List Int) : Option Nat := ow.findIdx? (· == 0)
def takeP (ow : List Int) (o : Int) : Int × Int × List Int := if okO o then match freeP ow with
  | some k => (k, 0, ow.set k o)
  | none => (0, 10, ow)
  else (0, 1, ow)
theorem pool_Take (h : PoolAt own c w pp rp n res harts ow bt) (o : Int) :
    Calls Try.prog 20 #[.pointer (some ⟨pp, 0, none⟩), .int .i64 o] w fun e w' => e = .returned (.tuple #[.int .i64 (takeP ow o).1, .int .i64 (takeP ow o).2.1]) ∧ Step (· = c) own w own w' ∧ PoolAt own c w' pp rp n res harts (takeP ow o).2.2 bt := by
  obtain ⟨qo, qb, d, h⟩ := h
  have h3 := h.c3
  have hlo := h.lo
  have hn := h.hn
  have HC := Lib.hid h.cellO
  have HZ := Lib.hid (fun k => h.bo.frozen k)
  have HP := Lib.hid h
  clear h
  by_cases ho : okO o = true
  · have ho' := okO_iff.1 ho
    have HT := Lib.hid (show takeP ow o = match freeP ow with | some k => ((k : Int), (0 : Int), ow.set k o) | none => (0, 10, ow) from by simp [takeP, ho])
    clear ho
    have ho2 : o = -1 ∨ ((o != -1) = true ∧ 1 ≤ o ∧ o ≤ 8) := by
      rcases ho' with h | h
      · exact .inl h
      · exact .inr ⟨by simp; omega, h⟩
    have hwf : -9223372036854775808 ≤ o ∧ o ≤ 9223372036854775807 := by omega
    clear ho'
    rcases ho2 with rfl | ⟨h1, h2, h3o⟩
    all_goals
      go_enter Try.func20, Try.ntmps20
      go_wp2
      go_loop [23] (fun i => ∃ k : Nat, k ≤ n ∧ i = .int .i64 (k : Int) ∧ Hid (∀ j, j < k → ow[j]? ≠ some 0)) (fun i => n - (intOf i).toNat)
      case atStart => exact ⟨0, by omega, rfl, fun j hj => by omega⟩
      case round =>
        obtain ⟨k, hk, rfl, HN⟩ := hrel
        by_cases hlt : k < n
        · obtain ⟨v, hv⟩ : ∃ v, ow[k]? = some v := ⟨_, List.getElem?_eq_getElem (by omega)⟩
          have hc := HC.out k
          have hz := HZ.out k
          rw [hv, Option.map_some] at hc
          have HV := Lib.hid hv
          clear hv
          by_cases he : v = 0
          · subst he
            go_wp2
            go_ret2
            have hf : freeP ow = some k := by
              unfold freeP
              rw [List.findIdx?_eq_some_iff_getElem]
              obtain ⟨hkl, hke⟩ := List.getElem?_eq_some_iff.1 HV.out
              refine ⟨hkl, by simp [hke], fun j hj => ?_⟩
              have := HN.out j hj
              rw [List.getElem?_eq_getElem (by omega)] at this
              simpa using this
            rw [HT.out, hf]
            exact ⟨rfl, HP.out.stepO k _, _, _, _, HP.out.setO k _⟩
          · go_wp2
            go_round
            case rel =>
              refine ⟨k + 1, by omega, by go_num, fun j hj => ?_⟩
              by_cases e : j = k
              · subst e; rw [HV.out]; simpa using he
              · exact HN.out j (by omega)
            case measure => simp [intOf]; omega
        · obtain rfl : k = n := by omega
          have hf : freeP ow = none := by
            unfold freeP
            rw [List.findIdx?_eq_none_iff]
            intro x hx
            obtain ⟨j, hj, rfl⟩ := List.getElem_of_mem hx
            have := HN.out j (by omega)
            rw [List.getElem?_eq_getElem hj] at this
            simpa using this
          have HF := Lib.hid hf
          go_wp2
          go_ret2
          rw [HT.out, HF.out]
          exact ⟨rfl, Step.refl _ _ _, _, _, _, HP.out⟩
  · have ho : okO o = false := by simpa using ho
    have ho' : ¬ (o = -1 ∨ (1 ≤ o ∧ o ≤ 8)) := fun h => by rw [okO_iff.2 h] at ho; cases ho
    have HT := Lib.hid (show takeP ow o = (0, 1, ow) from by simp [takeP, ho])
    have hne : (o != -1) = true := by simp; omega
    have hcs : o < 1 ∨ (1 ≤ o ∧ 8 < o) := by omega
    clear ho ho'
    rcases hcs with hlo1 | ⟨hhi1, hhi⟩
    all_goals
      go_enter Try.func20, Try.ntmps20
      go_wp2
      go_ret2
      rw [HT.out]
      exact ⟨rfl, Step.refl _ _ _, _, _, _, HP.out⟩
end
end Go.Proofs.Ytpodeclkgcgpgaa
