import Derived.Test.YtonhlgfgbdiapaaGreatIoT
/- The IOMMU: Access, of any device, any address, any size. -/
namespace Go.Proofs.YtonhlgfgbdiapaaGreat
set_option linter.unusedVariables false
set_option linter.unusedSimpArgs false
open Go.RowKit
set_option maxRecDepth 100000

/-- is an access one of a size, at its place -/
def wellA (sz : Int) (a : Nat) : Bool := okS sz && a % sz.toNat == 0
/-- what an access comes to: place, kind (0: it is let), what is remembered behind it -/
def accA (n : Nat) (m : Nat → Int) (s : Us) (room : Nat) (l : List Tr) (dev : Int) (a : Nat) (sz : Int) (wr : Bool) : Nat × Nat × List Tr :=
  if wellA sz a = false then (0, 4, l) else if rootP s dev = 0 then (0, 1, l) else accL n m (rootP s dev) room l dev.toNat a sz.toNat (accW wr)
/-- the state behind it; memory behind it -/
def accSt (s : Us) (dev : Int) (k : Nat) : Us := if k = 0 ∨ ¬ (0 ≤ dev ∧ dev < 8) then s else recS s
def accMt (s : Us) (m : Nat → Int) (dev : Int) (k a : Nat) : Nat → Int := if k = 0 ∨ ¬ (0 ≤ dev ∧ dev < 8) then m else recM s m dev k a
theorem accL_kind (n : Nat) (m : Nat → Int) (root room : Nat) (l : List Tr) (d a size acc : Nat) : ((accL n m root room l d a size acc).2.1 = 0 ∨ (accL n m root room l d a size acc).1 = 0 ∧ ((accL n m root room l d a size acc).2.1 = 2 ∨ (accL n m root room l d a size acc).2.1 = 3)) := by
  unfold accL
  split
  · split
    · split <;> simp
    · split
      · simp
      · split <;> simp
  · split
    · simp
    · split <;> simp
theorem accA_kind (n : Nat) (m : Nat → Int) (s : Us) (room : Nat) (l : List Tr) (dev : Int) (a : Nat) (sz : Int) (wr : Bool) : ((accA n m s room l dev a sz wr).2.1 = 0 ∨ (accA n m s room l dev a sz wr).1 = 0 ∧ ((accA n m s room l dev a sz wr).2.1 = 1 ∨ (accA n m s room l dev a sz wr).2.1 = 2 ∨ (accA n m s room l dev a sz wr).2.1 = 3 ∨ (accA n m s room l dev a sz wr).2.1 = 4)) := by
  unfold accA
  split
  · simp
  · split
    · simp
    · have := accL_kind n m (rootP s dev) room l dev.toNat a sz.toNat (accW wr); omega
theorem wellA_iff {sz : Int} {a : Nat} : wellA sz a = true ↔ ∃ k : Nat, sz = k ∧ (k = 1 ∨ k = 2 ∨ k = 4 ∨ k = 8) ∧ a % k = 0 := by
  unfold wellA
  rw [Bool.and_eq_true, okS_iff]
  constructor
  · rintro ⟨h1, h2⟩
    exact ⟨sz.toNat, by omega, by omega, by simpa using h2⟩
  · rintro ⟨k, rfl, h1, h2⟩
    exact ⟨by omega, by simpa using h2⟩
section
variable {own : Nat → Nat} {c cm ct cd p rp tp n room : Nat} {w : World} {s : Us} {m : Nat → Int} {l : List Tr}
theorem io_translate_bad (dev : Int) (a : Nat) (sz : Int) (hs0 : -9223372036854775808 ≤ sz) (hs1 : sz ≤ 9223372036854775807) (ha : a < 18446744073709551616) (wr : Bool) (hb : wellA sz a = false) (w : World) :
    Calls Tryz.prog 35 #[.pointer (some ⟨p, 0, none⟩), .int .i64 dev, .int .u64 (a : Int), .int .i64 sz, .bool wr] w fun e w' => e = .returned (.tuple #[.int .u64 0, .int .i64 4]) ∧ w = w' := by
  by_cases hok : okS sz = true
  · rcases okS_iff.1 hok with rfl | rfl | rfl | rfl
    · simp [wellA, okS, Nat.mod_one] at hb
    · have hz : (((a : Int) % 2) == 0) = false := by simp [wellA, okS] at hb; simp; omega
      clear hok hs0 hs1 hb
      go_enter Tryz.func35, Tryz.ntmps35
      go_wp2
      go_ret2
      exact ⟨rfl, rfl⟩
    · have hz : (((a : Int) % 4) == 0) = false := by simp [wellA, okS] at hb; simp; omega
      clear hok hs0 hs1 hb
      go_enter Tryz.func35, Tryz.ntmps35
      go_wp2
      go_ret2
      exact ⟨rfl, rfl⟩
    · have hz : (((a : Int) % 8) == 0) = false := by simp [wellA, okS] at hb; simp; omega
      clear hok hs0 hs1 hb
      go_enter Tryz.func35, Tryz.ntmps35
      go_wp2
      go_ret2
      exact ⟨rfl, rfl⟩
  · have hok' : okS sz = false := by simpa using hok
    have g1 : (sz != 1) = true := by unfold okS at hok'; simp at hok' ⊢; omega
    have g2 : (sz != 2) = true := by unfold okS at hok'; simp at hok' ⊢; omega
    have g3 : (sz != 4) = true := by unfold okS at hok'; simp at hok' ⊢; omega
    have g4 : (sz != 8) = true := by unfold okS at hok'; simp at hok' ⊢; omega
    have e1 : (sz == 1) = false := by simpa using g1
    have e2 : (sz == 2) = false := by simpa using g2
    have e3 : (sz == 4) = false := by simpa using g3
    have e4 : (sz == 8) = false := by simpa using g4
    clear hok hok' hb
    go_enter Tryz.func35, Tryz.ntmps35
    go_wp2
    go_ret2
    exact ⟨rfl, rfl⟩
theorem io_translate_root0 (hU : UsAt own c w p rp tp s) (dev : Int) (a k : Nat) (hr : rootP s dev = 0) (ha : a < 18446744073709551616) (hk : k = 1 ∨ k = 2 ∨ k = 4 ∨ k = 8) (hal : a % k = 0) (wr : Bool) :
    Calls Tryz.prog 35 #[.pointer (some ⟨p, 0, none⟩), .int .i64 dev, .int .u64 (a : Int), .int .i64 (k : Int), .bool wr] w fun e w' => e = .returned (.tuple #[.int .u64 0, .int .i64 1]) ∧ w = w' := by
  have hR := io_Root hU dev
  rw [hr, show ((0 : Nat) : Int) = 0 from rfl] at hR
  have HR := Lib.hid hR
  clear hR hU hr
  rcases hk with rfl | rfl | rfl | rfl
  · rw [show ((1 : Nat) : Int) = 1 from rfl]
    have hz : (a : Int) % 1 = 0 := by omega
    go_enter Tryz.func35, Tryz.ntmps35
    go_wp2_with fail
    ((with_reducible refine HR.out.mono ?_); rintro e w1 ⟨rfl, rfl⟩)
    go_wp2
    go_ret2
    exact ⟨rfl, rfl⟩
  · rw [show ((2 : Nat) : Int) = 2 from rfl]
    have hz : (a : Int) % 2 = 0 := by omega
    go_enter Tryz.func35, Tryz.ntmps35
    go_wp2_with fail
    ((with_reducible refine HR.out.mono ?_); rintro e w1 ⟨rfl, rfl⟩)
    go_wp2
    go_ret2
    exact ⟨rfl, rfl⟩
  · rw [show ((4 : Nat) : Int) = 4 from rfl]
    have hz : (a : Int) % 4 = 0 := by omega
    go_enter Tryz.func35, Tryz.ntmps35
    go_wp2_with fail
    ((with_reducible refine HR.out.mono ?_); rintro e w1 ⟨rfl, rfl⟩)
    go_wp2
    go_ret2
    exact ⟨rfl, rfl⟩
  · rw [show ((8 : Nat) : Int) = 8 from rfl]
    have hz : (a : Int) % 8 = 0 := by omega
    go_enter Tryz.func35, Tryz.ntmps35
    go_wp2_with fail
    ((with_reducible refine HR.out.mono ?_); rintro e w1 ⟨rfl, rfl⟩)
    go_wp2
    go_ret2
    exact ⟨rfl, rfl⟩
theorem io_translate_any (hU : UsAt own c w p rp tp s) (hM : MemAt ramK own cm w rp 0 n m) (hT : TlbAt own ct cd w tp room l) (hct : c ≠ ct ∧ c ≠ cd ∧ cm ≠ ct ∧ cm ≠ cd ∧ ct ≠ cd ∧ cm ≠ 7) (hok : UsOk n s) (hl : EntsOk l)
    (dev : Int) (a : Nat) (ha : a < 18446744073709551616) (sz : Int) (hs0 : -9223372036854775808 ≤ sz) (hs1 : sz ≤ 9223372036854775807) (wr : Bool) :
    Calls Tryz.prog 35 #[.pointer (some ⟨p, 0, none⟩), .int .i64 dev, .int .u64 (a : Int), .int .i64 sz, .bool wr] w fun e w' =>
      e = .returned (.tuple #[.int .u64 ((accA n m s room l dev a sz wr).1 : Nat), .int .i64 ((accA n m s room l dev a sz wr).2.1 : Nat)]) ∧
      ∃ own', Step (fun x => x = ct ∨ x = cd) own w own' w' ∧ UsAt own' c w' p rp tp s ∧ MemAt ramK own' cm w' rp 0 n m ∧ TlbAt own' ct cd w' tp room (accA n m s room l dev a sz wr).2.2 ∧ EntsOk (accA n m s room l dev a sz wr).2.2 := by
  cases hw : wellA sz a with
  | false =>
    have e0 : accA n m s room l dev a sz wr = (0, 4, l) := by unfold accA; rw [if_pos hw]
    rw [e0]
    refine (io_translate_bad dev a sz hs0 hs1 ha wr hw w).mono ?_
    rintro e w1 ⟨rfl, rfl⟩
    exact ⟨rfl, own, Step.refl _ _ _, hU, hM, hT, hl⟩
  | true =>
    obtain ⟨k, rfl, hk, hal⟩ := wellA_iff.1 hw
    by_cases hr : rootP s dev = 0
    · have e0 : accA n m s room l dev a (k : Int) wr = (0, 1, l) := by unfold accA; rw [if_neg (by rw [hw]; decide), if_pos hr]
      rw [e0]
      refine (io_translate_root0 hU dev a k hr ha hk hal wr).mono ?_
      rintro e w1 ⟨rfl, rfl⟩
      exact ⟨rfl, own, Step.refl _ _ _, hU, hM, hT, hl⟩
    · have hd : 0 ≤ dev ∧ dev < 8 := by
        unfold rootP at hr
        split at hr
        · assumption
        · exact absurd rfl hr
      obtain ⟨d, rfl⟩ := Int.eq_ofNat_of_zero_le hd.1
      have hrr : rootP s (d : Int) = s.rt d := by unfold rootP; rw [if_pos hd]; rfl
      have e0 : accA n m s room l (d : Int) a (k : Int) wr = accL n m (s.rt d) room l d a k (accW wr) := by unfold accA; rw [if_neg (by rw [hw]; decide), if_neg hr, hrr]; rfl
      rw [e0]
      exact io_translate hU hM hT hct hok hl d a k (by omega) (by rw [← hrr]; exact hr) ha hk hal wr
theorem io_blocked_no (dev : Int) (hd : ¬ (0 ≤ dev ∧ dev < 8)) (k a : Int) (w : World) :
    Calls Tryz.prog 36 #[.pointer (some ⟨p, 0, none⟩), .int .i64 dev, .int .i64 k, .int .u64 a] w fun e w' => e = .returned (.tuple #[]) ∧ w = w' := by
  have HT := Lib.hid (io_there dev w)
  have hde : decide (0 ≤ dev ∧ dev < 8) = false := by simpa using hd
  clear hd
  go_enter Tryz.func36, Tryz.ntmps36
  go_wp2_with fail
  ((with_reducible refine HT.out.mono ?_); rintro e wz ⟨rfl, rfl⟩)
  rw [hde]
  clear HT
  go_wp2
  (try simp only [Exit.inBlock, Exit.then])
  exact bodyPost_ret (results_none rfl _ _ _) rfl ⟨rfl, rfl⟩
theorem io_blocked_any (hU : UsAt own c w p rp tp s) (hM : MemAt ramK own cm w rp 0 n m) (hcm : c ≠ cm) (hok : UsOk n s) (dev : Int) (k a : Nat) (hk : k = 1 ∨ k = 2 ∨ k = 3 ∨ k = 4 ∨ k = 5) (ha : a < 18446744073709551616) :
    Calls Tryz.prog 36 #[.pointer (some ⟨p, 0, none⟩), .int .i64 dev, .int .i64 (k : Int), .int .u64 (a : Int)] w fun e w' => e = .returned (.tuple #[]) ∧
      ∃ own', Step (fun x => x = c ∨ x = cm) own w own' w' ∧ UsAt own' c w' p rp tp (accSt s dev k) ∧ MemAt ramK own' cm w' rp 0 n (accMt s m dev k a) := by
  by_cases hd : 0 ≤ dev ∧ dev < 8
  · obtain ⟨d, rfl⟩ := Int.eq_ofNat_of_zero_le hd.1
    have e1 : accSt s (d : Int) k = recS s := by unfold accSt; rw [if_neg (by omega)]
    have e2 : accMt s m (d : Int) k a = recM s m d k a := by unfold accMt; rw [if_neg (by omega)]
    rw [e1, e2]
    exact io_blocked hU hM hcm hok d k a (by omega) hk ha
  · have e1 : accSt s dev k = s := by unfold accSt; rw [if_pos (.inr hd)]
    have e2 : accMt s m dev k a = m := by unfold accMt; rw [if_pos (.inr hd)]
    rw [e1, e2]
    refine (io_blocked_no dev hd k a w).mono ?_
    rintro e w1 ⟨rfl, rfl⟩
    exact ⟨rfl, own, Step.refl _ _ _, hU, hM⟩
set_option maxHeartbeats 1000000 in
theorem io_Access (hU : UsAt own c w p rp tp s) (hM : MemAt ramK own cm w rp 0 n m) (hT : TlbAt own ct cd w tp room l) (hcm : c ≠ cm) (hct : c ≠ ct ∧ c ≠ cd ∧ cm ≠ ct ∧ cm ≠ cd ∧ ct ≠ cd ∧ cm ≠ 7) (hok : UsOk n s) (hl : EntsOk l)
    (dev : Int) (a : Nat) (ha : a < 18446744073709551616) (sz : Int) (hs0 : -9223372036854775808 ≤ sz) (hs1 : sz ≤ 9223372036854775807) (wr : Bool) :
    Calls Tryz.prog 14 #[.pointer (some ⟨p, 0, none⟩), .int .i64 dev, .int .u64 (a : Int), .int .i64 sz, .bool wr] w fun e w' =>
      e = .returned (.tuple #[.int .u64 ((accA n m s room l dev a sz wr).1 : Nat), .bool ((accA n m s room l dev a sz wr).2.1 == 0)]) ∧
      ∃ own', Step (fun x => x = c ∨ x = cm ∨ x = ct ∨ x = cd) own w own' w' ∧ UsAt own' c w' p rp tp (accSt s dev (accA n m s room l dev a sz wr).2.1) ∧ MemAt ramK own' cm w' rp 0 n (accMt s m dev (accA n m s room l dev a sz wr).2.1 a) ∧ TlbAt own' ct cd w' tp room (accA n m s room l dev a sz wr).2.2 ∧ EntsOk (accA n m s room l dev a sz wr).2.2 := by
  have hk := accA_kind n m s room l dev a sz wr
  have HT := Lib.hid (io_translate_any hU hM hT hct hok hl dev a ha sz hs0 hs1 wr)
  have HOK := Lib.hid hok
  generalize accA n m s room l dev a sz wr = R at *
  obtain ⟨PA, K, L⟩ := R
  simp only [] at hk HT ⊢
  clear hU hM hT hok hl
  by_cases hz : K = 0
  · subst hz
    have e1 : accSt s dev 0 = s := by unfold accSt; rw [if_pos (.inl rfl)]
    have e2 : accMt s m dev 0 a = m := by unfold accMt; rw [if_pos (.inl rfl)]
    rw [e1, e2]
    rw [show ((0 : Nat) : Int) = 0 from rfl] at HT
    clear hk
    go_enter Tryz.func14, Tryz.ntmps14
    go_wp2_with fail
    ((with_reducible refine HT.out.mono ?_); rintro e w1 ⟨rfl, own1, hS1, hU1, hM1, hT1, hl1⟩)
    have H1 := Lib.hid (And.intro (hS1.mono (C' := fun x => x = c ∨ x = cm ∨ x = ct ∨ x = cd) (fun _ h => by omega)) (And.intro hU1 (And.intro hM1 (And.intro hT1 hl1))))
    clear hS1 hU1 hM1 hT1 hl1 HT
    go_wp2
    go_ret2
    exact ⟨rfl, own1, H1.out⟩
  · obtain ⟨rfl, hkk⟩ : PA = 0 ∧ (K = 1 ∨ K = 2 ∨ K = 3 ∨ K = 4) := by omega
    have hK0 : ((K : Int) == 0) = false := by simp; omega
    rw [show (K == 0) = false from by simpa using hz]
    clear hk
    go_enter Tryz.func14, Tryz.ntmps14
    go_wp2_with fail
    ((with_reducible refine HT.out.mono ?_); rintro e w1 ⟨rfl, own1, hS1, hU1, hM1, hT1, hl1⟩)
    have HB := Lib.hid (io_blocked_any hU1 hM1 hcm HOK.out dev K a (by omega) ha)
    have H1 := Lib.hid (And.intro hS1 (And.intro hT1 hl1))
    clear hS1 hU1 hM1 hT1 hl1 HT HOK
    go_wp2_with fail
    ((with_reducible refine HB.out.mono ?_); rintro e w2 ⟨rfl, own2, hS2, hU2, hM2⟩)
    have H2 := Lib.hid (And.intro ((H1.out.1.mono (C' := fun x => x = c ∨ x = cm ∨ x = ct ∨ x = cd) (fun _ h => by omega)).trans (hS2.mono (fun _ h => by omega))) (And.intro hU2 (And.intro hM2 (And.intro (H1.out.2.1.step hS2 (by omega) (by omega)) H1.out.2.2))))
    clear hS2 hU2 hM2 H1 HB
    go_wp2
    go_ret2
    exact ⟨rfl, own2, H2.out⟩
end
end Go.Proofs.YtonhlgfgbdiapaaGreat
