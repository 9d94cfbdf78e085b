import Derived.Test.YtpodeclkgcgpgaaSp8
/- VMIDs (stage.Vmids), and StageVmids' walk. -/
namespace Go.Proofs.Ytpodeclkgcgpgaa
set_option linter.unusedVariables false
open Go.RowKit
set_option maxRecDepth 100000

def vmC (D : Nat → Bool) : Array Value := ((List.range 16).map (fun j => Value.bool (D j))).toArray
def updB (D : Nat → Bool) (k : Nat) (b : Bool) : Nat → Bool := fun j => if j = k then b else D j
theorem vmC_size (D : Nat → Bool) : (vmC D).size = 16 := by simp [vmC]
theorem vmC_at (D : Nat → Bool) {k : Nat} (hk : k < 16) : (vmC D)[k]? = some (.bool (D k)) := by
  unfold vmC; rw [List.getElem?_toArray, List.getElem?_map, List.getElem?_range hk]; rfl
theorem vmC_set (D : Nat → Bool) {k : Nat} (hk : k < 16) (b : Bool) : (vmC D).setIfInBounds k (.bool b) = vmC (updB D k b) := by
  apply Array.ext_getElem?
  intro j
  rw [Array.getElem?_setIfInBounds]
  rcases Nat.lt_or_ge j 16 with hj | hj
  · rw [vmC_at _ hj, vmC_at _ hj, vmC_size]
    unfold updB
    by_cases e : k = j
    · subst e; simp [hk]
    · rw [if_neg e, if_neg (fun h => e h.symm)]
  · rw [Array.getElem?_eq_none (by rw [vmC_size]; omega), Array.getElem?_eq_none (by rw [vmC_size]; omega), if_neg (by omega)]
/-- the lowest that is not taken; 0: none -/
def FV (D : Nat → Bool) (j q : Nat) : Prop := (q = 0 ∧ ∀ i, j ≤ i → i ≤ 15 → D i = true) ∨ (j ≤ q ∧ q ≤ 15 ∧ D q = false ∧ ∀ i, j ≤ i → i < q → D i = true)
theorem FV.uniq {D : Nat → Bool} {q r : Nat} (h : FV D 1 q) (k : FV D 1 r) : q = r := by
  rcases h with ⟨rfl, h⟩ | ⟨h1, h2, h3, h4⟩ <;> rcases k with ⟨rfl, k⟩ | ⟨k1, k2, k3, k4⟩
  · rfl
  · have := h r k1 k2; rw [k3] at this; cases this
  · have := k q h1 h2; rw [h3] at this; cases this
  · rcases Nat.lt_trichotomy q r with e | e | e
    · have := k4 q h1 e; rw [h3] at this; cases this
    · exact e
    · have := h4 r k1 e; rw [k3] at this; cases this
theorem FV.step_free {D : Nat → Bool} {j : Nat} (h1 : j ≤ 15) (h : D j = false) : FV D j j := Or.inr ⟨Nat.le_refl _, h1, h, fun i a b => by omega⟩
theorem FV.step_not {D : Nat → Bool} {j q : Nat} (hj : 1 ≤ j) (h : FV D (j + 1) q) (hd : D j = true) : FV D j q := by
  rcases h with ⟨rfl, h⟩ | ⟨h1, h2, h3, h4⟩
  · refine Or.inl ⟨rfl, fun i a b => ?_⟩
    by_cases e : i = j
    · subst e; exact hd
    · exact h i (by omega) b
  · refine Or.inr ⟨by omega, h2, h3, fun i a b => ?_⟩
    by_cases e : i = j
    · subst e; exact hd
    · exact h4 i (by omega) b
theorem st_rightB (v : Int) (w : World) : Calls Try.prog 100 #[.int .i64 v] w fun e w' => e = .returned (.bool (decide (1 ≤ v ∧ v ≤ 15))) ∧ w = w' := by
  have hcs : (1 ≤ v ∧ decide (v ≤ 15) = true) ∨ (1 ≤ v ∧ decide (v ≤ 15) = false) ∨ v < 1 := by
    rcases Int.lt_or_le v 1 with h | h
    · exact Or.inr (Or.inr h)
    · rcases Int.lt_or_le 15 v with h2 | h2
      · exact Or.inr (Or.inl ⟨h, by simp; omega⟩)
      · exact Or.inl ⟨h, by simp; omega⟩
  have hr : (1 ≤ v ∧ decide (v ≤ 15) = true → decide (1 ≤ v ∧ v ≤ 15) = true) ∧ (¬ (1 ≤ v ∧ decide (v ≤ 15) = true) → decide (1 ≤ v ∧ v ≤ 15) = false) := by
    constructor
    · rintro ⟨a, b⟩; simp at b ⊢; omega
    · intro h; simp at h ⊢; exact h
  have HR := Lib.hid hr
  clear hr
  rcases hcs with ⟨h1, h2⟩ | ⟨h1, h2⟩ | h1
  · rw [HR.out.1 ⟨h1, h2⟩]
    go_enter Try.func100, Try.ntmps100
    go_wp2
    go_ret
    exact ⟨rfl, rfl⟩
  · rw [HR.out.2 (fun h => by rw [h2] at h; cases h.2)]
    go_enter Try.func100, Try.ntmps100
    go_wp2
    go_ret
    exact ⟨rfl, rfl⟩
  · rw [HR.out.2 (fun h => by omega)]
    go_enter Try.func100, Try.ntmps100
    go_wp2
    go_ret
    exact ⟨rfl, rfl⟩
/-- what Take comes to -/
inductive VT (D : Nat → Bool) : Nat → (Nat → Bool) → Int → Prop
  | no (h : ∀ i, 1 ≤ i → i ≤ 15 → D i = true) : VT D 0 D 22
  | yes (q : Nat) (h1 : 1 ≤ q) (h2 : q ≤ 15) (h3 : D q = false) (h4 : ∀ i, 1 ≤ i → i < q → D i = true) : VT D q (updB D q true) 0
/-- what Give comes to -/
inductive VG (D : Nat → Bool) (v : Int) : (Nat → Bool) → Int → Prop
  | ok (k : Nat) (hv : v = k) (h1 : 1 ≤ k) (h2 : k ≤ 15) (hd : D k = true) : VG D v (updB D k false) 0
  | bad (h : ¬ (1 ≤ v ∧ v ≤ 15) ∨ ∃ k : Nat, v = k ∧ 1 ≤ k ∧ k ≤ 15 ∧ D k = false) : VG D v D 1
section
variable {w : World} {vb : Nat} {D : Nat → Bool}
theorem vm_Take (hB : Blk w vb 186 (vmC D)) :
    Calls Try.prog 46 #[.pointer (some ⟨vb, 0, none⟩)] w fun e w' => ∃ q D' er, VT D q D' er ∧ e = .returned (.tuple #[.int .i64 (q : Int), .int .i64 er]) ∧ Blk w' vb 186 (vmC D') ∧ Upd (fun x => x = vb) w w' := by
  have hl := hB.lt
  have HB := Lib.hid hB
  clear hB
  go_enter Try.func46, Try.ntmps46
  go_wp2
  go_loop [4] (fun i => ∃ j : Nat, 1 ≤ j ∧ j ≤ 16 ∧ i = .int .i64 (j : Int) ∧ Hid (∀ x, 1 ≤ x → x < j → D x = true)) (fun i => 16 - (intOf i).toNat)
  case atStart => exact ⟨1, by omega, by omega, rfl, fun x h1 h2 => by omega⟩
  case round =>
    obtain ⟨j, hj1, hj2, rfl, HN⟩ := hrel
    by_cases hlt : j ≤ 15
    · have hc := HB.out.cell j
      rw [vmC_at _ (by omega)] at hc
      have hz := HB.out.frozen j
      obtain ⟨b, hb⟩ : ∃ b, D j = b := ⟨_, rfl⟩
      rw [hb] at hc
      have HD := Lib.hid hb
      clear hb
      rcases b with _ | _
      · have hBn := HB.out.set_ j (.bool true)
        rw [vmC_set D (by omega) true] at hBn
        have HBn := Lib.hid hBn
        have HU := Lib.hid ((Upd.refl (fun x => x = vb) w).setCell (p := ⟨vb, j, none⟩) (.inl rfl) (.bool true))
        clear hBn
        go_wp2
        go_ret2
        exact ⟨j, _, _, VT.yes j hj1 hlt HD.out HN.out, rfl, HBn.out, HU.out⟩
      · go_wp2
        go_round
        case rel => exact ⟨j + 1, by omega, by omega, by go_num, fun x h1 h2 => by
          by_cases e : x = j
          · subst e; exact HD.out
          · exact HN.out x h1 (by omega)⟩
        case measure => simp [intOf]; omega
    · obtain rfl : j = 16 := by omega
      go_wp2
      go_ret2
      exact ⟨0, D, 22, VT.no (fun i h1 h2 => HN.out i h1 (by omega)), rfl, HB.out, Upd.refl _ _⟩
theorem vm_Give (hB : Blk w vb 186 (vmC D)) (v : Int) :
    Calls Try.prog 47 #[.pointer (some ⟨vb, 0, none⟩), .int .i64 v] w fun e w' => ∃ D' er, VG D v D' er ∧ e = .returned (.int .i64 er) ∧ Blk w' vb 186 (vmC D') ∧ Upd (fun x => x = vb) w w' := by
  have hl := hB.lt
  have HR := Lib.hid (st_rightB v w)
  by_cases hv : 1 ≤ v ∧ v ≤ 15
  · obtain ⟨k, rfl⟩ := Int.eq_ofNat_of_zero_le (show 0 ≤ v by omega)
    have hk : k < 16 := by omega
    have hc := hB.cell k
    rw [vmC_at _ hk] at hc
    have hz := hB.frozen k
    rw [decide_eq_true hv] at HR
    have HB := Lib.hid hB
    have HV := Lib.hid hv
    obtain ⟨b, hb⟩ : ∃ b, D k = b := ⟨_, rfl⟩
    rw [hb] at hc
    have HD := Lib.hid hb
    have hBn := hB.set_ k (.bool false)
    rw [vmC_set D hk false] at hBn
    have HBn := Lib.hid hBn
    have HU := Lib.hid ((Upd.refl (fun x => x = vb) w).setCell (p := ⟨vb, k, none⟩) (.inl rfl) (.bool false))
    clear hB hv hb hBn
    rcases b with _ | _
    · go_enter Try.func47, Try.ntmps47
      go_wp2_with fail
      refine HR.out.mono ?_; rintro e w1 ⟨rfl, rfl⟩
      go_wp2
      go_ret
      exact ⟨D, 1, VG.bad (Or.inr ⟨k, rfl, by have := HV.out; omega, by omega, HD.out⟩), rfl, HB.out, Upd.refl _ _⟩
    · go_enter Try.func47, Try.ntmps47
      go_wp2_with fail
      refine HR.out.mono ?_; rintro e w1 ⟨rfl, rfl⟩
      go_wp2
      go_ret
      exact ⟨_, 0, VG.ok k rfl (by have := HV.out; omega) (by omega) HD.out, rfl, HBn.out, HU.out⟩
  · rw [decide_eq_false hv] at HR
    have HB := Lib.hid hB
    have HV := Lib.hid hv
    clear hB hv
    go_enter Try.func47, Try.ntmps47
    go_wp2_with fail
    refine HR.out.mono ?_; rintro e w1 ⟨rfl, rfl⟩
    go_wp2
    go_ret
    exact ⟨D, 1, VG.bad (Or.inl HV.out), rfl, HB.out, Upd.refl _ _⟩
end
end Go.Proofs.Ytpodeclkgcgpgaa
