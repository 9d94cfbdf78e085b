import Derived.Test.YtlgcplekcmocbaaUmx
import Derived.Test.YtlgcplekcmocbaaUmb
import Derived.Test.YtlgcplekcmocbaaIoV
/- The document's IOMMU: Access. -/
namespace Go.Proofs.Ytlgcplekcmocbaa
set_option linter.unusedVariables false
set_option linter.unusedSimpArgs false
open Go.RowKit
set_option maxRecDepth 100000

theorem accA_lst {n : Nat} {m : Nat → Int} {s : Us} {room : Nat} {l : List Tr} {dev : Int} {a : Nat} {sz : Int} {wr : Bool} (h : wellA sz a = false) : accA n m s room l dev a sz wr = (0, 4, l) := by unfold accA; rw [if_pos h]
section
variable {own : Nat → Nat} {c d cm ct cd q p2 t2 n room : Nat} {w : World} {s : Us} {ms : List To4} {m : Nat → Int} {l : List Tr}
set_option maxHeartbeats 4000000 in
theorem uref_Access (hU : UrefAt own c d w q p2 t2 s ms) (hM : MemAt refK own cm w p2 0 n m) (hT : TrefAt own ct cd w t2 room l) (hcd : c ≠ d) (hcm : c ≠ cm ∧ d ≠ cm) (hct : c ≠ ct ∧ c ≠ cd ∧ d ≠ ct ∧ d ≠ cd ∧ cm ≠ ct ∧ cm ≠ cd ∧ ct ≠ cd) (hok : UsOk n s) (hl : EntsOk l)
    (dev : Int) (a : Nat) (ha : a < 18446744073709551616) (sz : Int) (hs0 : -9223372036854775808 ≤ sz) (hs1 : sz ≤ 9223372036854775807) (wr : Bool) :
    Calls Try.prog 43 #[.pointer (some ⟨q, 0, none⟩), .int .i64 dev, .int .u64 (a : Int), .int .i64 sz, .bool wr] w fun e w' =>
      e = .returned (.tuple #[.int .u64 ((accA n m s room l dev a sz wr).1 : Nat), .bool ((accA n m s room l dev a sz wr).2.1 == 0)]) ∧
      ∃ own', Step (fun x => x = c ∨ x = cm ∨ x = ct ∨ x = cd) own w own' w' ∧ UrefAt own' c d w' q p2 t2 (accSt s dev (accA n m s room l dev a sz wr).2.1) ms ∧ MemAt refK own' cm w' p2 0 n (accMt s m dev (accA n m s room l dev a sz wr).2.1 a) ∧ TrefAt own' ct cd w' t2 room (accA n m s room l dev a sz wr).2.2 := by
  have HTn := Lib.hid (ur_none dev w)
  obtain ⟨R, hR⟩ : ∃ R, accA n m s room l dev a sz wr = R := ⟨_, rfl⟩
  rw [hR]
  by_cases hd : 0 ≤ dev ∧ dev < 8
  · obtain ⟨k, rfl⟩ := Int.eq_ofNat_of_zero_le hd.1
    have hk8 : k < 8 := by omega
    have hde : (!decide (0 ≤ (k : Int) ∧ (k : Int) < 8)) = false := by simpa using hd
    have hrp : rootP s (k : Int) = s.rt k := by unfold rootP; rw [if_pos hd]; rfl
    have hrtl := hok.root k
    have hcr := hU.root k hk8
    obtain ⟨c0, c1, _⟩ := hU.cells
    have H0 := Lib.hid (And.intro hU (And.intro hM (And.intro hT (And.intro hl hok))))
    have HR := Lib.hid (And.intro hR hrp)
    clear hU hM hT hl hok hR hrp hd
    -- a way out that is blocked
    have hbl : ∀ (kd : Nat) (w1 : World) (own1 : Nat → Nat) (l1 : List Tr), (kd = 1 ∨ kd = 2 ∨ kd = 3 ∨ kd = 4) → R = (0, kd, l1) → Step (fun x => x = ct ∨ x = cd) own w own1 w1 → TrefAt own1 ct cd w1 t2 room l1 →
        Calls Try.prog 72 #[.pointer (some ⟨q, 0, none⟩), .int .i64 (k : Int), .int .i64 (kd : Int), .int .u64 (a : Int)] w1 fun e w' => e = .returned (.tuple #[]) ∧
          Hid (∃ own', Step (fun x => x = c ∨ x = cm ∨ x = ct ∨ x = cd) own w own' w' ∧ UrefAt own' c d w' q p2 t2 (accSt s (k : Int) R.2.1) ms ∧ MemAt refK own' cm w' p2 0 n (accMt s m (k : Int) R.2.1 a) ∧ TrefAt own' ct cd w' t2 room R.2.2) := by
      intro kd w1 own1 l1 hkd hRe hS hT1
      have hU1 := H0.out.1.step hS (by omega) (by omega)
      have hM1 := H0.out.2.1.step hS (by omega)
      refine (uref_blocked hU1 hM1 hcd hcm H0.out.2.2.2.2 k kd a hk8 (by omega) ha).mono ?_
      rintro e w2 ⟨rfl, own2, hS2, hU2, hM2⟩
      refine ⟨rfl, own2, (hS.mono (fun _ h => by omega)).trans (hS2.mono (fun _ h => by omega)), ?_, ?_, ?_⟩
      · rw [hRe]; simp only []; unfold accSt; rw [if_neg (by omega)]; exact hU2
      · rw [hRe]; simp only []; unfold accMt; rw [if_neg (by omega)]; exact hM2
      · rw [hRe]; exact hT1.step hS2 (by omega) (by omega)
    have HBL := Lib.hid hbl
    clear hbl
    go_enter Try.func43, Try.ntmps43
    go_wp2_with fail
    ((with_reducible refine HTn.out.mono ?_); rintro e wz ⟨rfl, rfl⟩)
    rw [hde]
    clear HTn
    go_upto_if 22 with fail
    go_cut [12, 13] (fun s12 s13 wx => s12 = .int .i64 (accW wr : Int) ∧ s13 = .int .i64 (needN (accW wr) : Int) ∧ w = wx)
    case first =>
      cases wr
      · go_wp2
        go_meet
        exact ⟨rfl, rfl, rfl⟩
      · go_wp2
        go_meet
        exact ⟨rfl, rfl, rfl⟩
    case rest =>
    obtain ⟨rfl, rfl, rfl⟩ := hcut
    go_upto_region 8 with fail
    go_cut [43] (fun s43 wx => s43 = .bool (!wellA sz a) ∧ w = wx)
    case first =>
      by_cases hok : okS sz = true
      · rcases okS_iff.1 hok with rfl | rfl | rfl | rfl
        · have hz : (a : Int) % 1 = 0 := by omega
          have hw : wellA 1 a = true := by unfold wellA; rw [show okS 1 = true from rfl]; simp [Nat.mod_one]
          go_wp2
          go_meet
          exact ⟨by rw [hw]; rfl, rfl⟩
        · by_cases hz : a % 2 = 0
          · have hz2 : (a : Int) % 2 = 0 := by omega
            have hw : wellA 2 a = true := by unfold wellA; rw [show okS 2 = true from rfl]; simp; omega
            go_wp2
            go_meet
            exact ⟨by rw [hw]; rfl, rfl⟩
          · have hz2 : ((a : Int) % 2 == 0) = false := by simp; omega
            have hz3 : ((a : Int) % 2 != 0) = true := by simp; omega
            have hw : wellA 2 a = false := by unfold wellA; rw [show okS 2 = true from rfl]; simp; omega
            go_wp2
            go_meet
            exact ⟨by rw [hw]; rfl, rfl⟩
        · by_cases hz : a % 4 = 0
          · have hz2 : (a : Int) % 4 = 0 := by omega
            have hw : wellA 4 a = true := by unfold wellA; rw [show okS 4 = true from rfl]; simp; omega
            go_wp2
            go_meet
            exact ⟨by rw [hw]; rfl, rfl⟩
          · have hz2 : ((a : Int) % 4 == 0) = false := by simp; omega
            have hz3 : ((a : Int) % 4 != 0) = true := by simp; omega
            have hw : wellA 4 a = false := by unfold wellA; rw [show okS 4 = true from rfl]; simp; omega
            go_wp2
            go_meet
            exact ⟨by rw [hw]; rfl, rfl⟩
        · by_cases hz : a % 8 = 0
          · have hz2 : (a : Int) % 8 = 0 := by omega
            have hw : wellA 8 a = true := by unfold wellA; rw [show okS 8 = true from rfl]; simp; omega
            go_wp2
            go_meet
            exact ⟨by rw [hw]; rfl, rfl⟩
          · have hz2 : ((a : Int) % 8 == 0) = false := by simp; omega
            have hz3 : ((a : Int) % 8 != 0) = true := by simp; omega
            have hw : wellA 8 a = false := by unfold wellA; rw [show okS 8 = true from rfl]; simp; omega
            go_wp2
            go_meet
            exact ⟨by rw [hw]; rfl, rfl⟩
      · have hok' : okS sz = false := by simpa using hok
        have hw : wellA sz a = false := by unfold wellA; rw [hok']; rfl
        have g1 : (sz != 1) = true := by unfold okS at hok'; simp at hok' ⊢; omega
        have g2 : (sz != 2) = true := by unfold okS at hok'; simp at hok' ⊢; omega
        have g3 : (sz != 4) = true := by unfold okS at hok'; simp at hok' ⊢; omega
        have g4 : (sz != 8) = true := by unfold okS at hok'; simp at hok' ⊢; omega
        have e1 : (sz == 1) = false := by simpa using g1
        have e2 : (sz == 2) = false := by simpa using g2
        have e3 : (sz == 4) = false := by simpa using g3
        have e4 : (sz == 8) = false := by simpa using g4
        go_wp2
        go_meet
        exact ⟨by rw [hw]; rfl, rfl⟩
    case rest =>
    obtain ⟨rfl, rfl⟩ := hcut
    cases hw : wellA sz a with
    | false =>
      have hRe : R = (0, 4, l) := by rw [← HR.out.1]; exact accA_lst hw
      have hB := HBL.out 4 w own l (by omega) hRe (Step.refl _ _ _) H0.out.2.2.1
      rw [show ((4 : Nat) : Int) = 4 from rfl] at hB
      have HB := Lib.hid hB
      have HRe := Lib.hid hRe
      clear hB hRe hw
      go_wp2_with fail
      ((with_reducible refine HB.out.mono ?_); rintro e w2 ⟨rfl, H2⟩)
      clear HB
      go_wp2
      go_ret2
      rw [HRe.out]
      exact ⟨rfl, by have := H2.out; rw [HRe.out] at this; exact this⟩
    | true =>
      by_cases hr0 : s.rt k = 0
      · have hRe : R = (0, 1, l) := by rw [← HR.out.1]; unfold accA; rw [if_neg (by rw [hw]; decide), if_pos (by rw [HR.out.2]; exact hr0)]
        have hB := HBL.out 1 w own l (by omega) hRe (Step.refl _ _ _) H0.out.2.2.1
        rw [show ((1 : Nat) : Int) = 1 from rfl] at hB
        rw [hr0, show ((0 : Nat) : Int) = 0 from rfl] at hcr
        have HB := Lib.hid hB
        have HRe := Lib.hid hRe
        clear hB hRe hw
        go_wp2_with fail
        ((with_reducible refine HB.out.mono ?_); rintro e w2 ⟨rfl, H2⟩)
        clear HB
        go_wp2
        go_ret2
        rw [HRe.out]
        exact ⟨rfl, by have := H2.out; rw [HRe.out] at this; exact this⟩
      · obtain ⟨zk, rfl, hzk, hal⟩ := wellA_iff.1 hw
        have hRl : accL n m (s.rt k) room l k a zk (accW wr) = R := by rw [← HR.out.1]; unfold accA; rw [if_neg (by rw [hw]; decide), if_neg (by rw [HR.out.2]; exact hr0), HR.out.2]; rfl
        have HRl := Lib.hid hRl
        have hrz : ((s.rt k : Int) == 0) = false := by simp; omega
        obtain ⟨root, hroot⟩ : ∃ r, s.rt k = r := ⟨_, rfl⟩
        rw [hroot] at hr0 hrtl hcr hrz HRl
        have HRt := Lib.hid hroot
        clear hRl HR hw hroot
        obtain ⟨LK, hLK⟩ : ∃ LK, lookT l (k : Int) ((a : Int) / 4096) = LK := ⟨_, rfl⟩
        have hL := tref_Look H0.out.2.2.1 (k : Int) ((a : Int) / 4096)
        rw [hLK] at hL
        have HLo := Lib.hid hL
        have HLK := Lib.hid hLK
        have hacc : accW wr = 2 ∨ accW wr = 3 := by unfold accW; split <;> simp
        generalize accW wr = acc at *
        have hnd : needN acc = 2 ∨ needN acc = 4 := by unfold needN; split <;> simp
        obtain ⟨nd, hnde⟩ : ∃ nd, needN acc = nd := ⟨_, rfl⟩
        rw [hnde] at hnd ⊢
        have HND := Lib.hid hnde
        obtain ⟨X, hX⟩ : ∃ X, LK.getD tr0 = X := ⟨_, rfl⟩
        have hXb : (0 ≤ X.f ∧ X.f < 4503599627370496) ∧ 0 ≤ X.r ∧ X.r < 16 := by
          rw [← hX]
          cases LK with
          | none => decide
          | some t => exact H0.out.2.2.2.1 t (List.mem_of_find?_eq_some hLK)
        have hsome : ∀ t, LK = some t → t = X := fun t ht => by rw [← hX, ht]; rfl
        obtain ⟨B, hB⟩ : ∃ B, LK.isSome = B := ⟨_, rfl⟩
        have HSM := Lib.hid (And.intro hsome (And.intro hB hX))
        obtain ⟨xv, xp, xf, xr⟩ := X
        rw [hX, hB] at HLo
        simp only [] at HLo hXb
        obtain ⟨f, rfl⟩ := Int.eq_ofNat_of_zero_le hXb.1.1
        obtain ⟨r, rfl⟩ := Int.eq_ofNat_of_zero_le hXb.2.1
        have hf : f < 4503599627370496 := by omega
        have hr16 : r < 16 := by omega
        have HA4 := Lib.hid (and4 r nd hr16 hnd)
        clear hL hLK hnde hX hXb hsome hB
        go_wp2_with fail
        ((with_reducible refine HLo.out.mono ?_); rintro e w1 ⟨rfl, hU1⟩)
        clear HLo
        have hst : Step (fun _ => False) own w own (w1.alloc (.cells #[.int .i64 xv, .int .u64 xp, .int .u64 (f : Int), .int .i64 (r : Int)] 115)) := (show Step (fun _ => False) own w own w1 from ⟨hU1, fun _ _ => rfl⟩).trans (step_allocS own w1 _)
        have hU2 := H0.out.1.step hst (fun h => h) (fun h => h)
        have hM2 := H0.out.2.1.step hst (fun h => h)
        have hT2 := H0.out.2.2.1.step hst (fun h => h) (fun h => h)
        have d2 := hU2.root k hk8
        rw [HRt.out] at d2
        obtain ⟨d0, d1, _⟩ := hU2.cells
        have H2 := Lib.hid (And.intro hst (And.intro hU2 (And.intro hM2 (And.intro hT2 H0.out.2.2.2.1))))
        clear hst hU2 hM2 hT2 hU1 c0 c1
        obtain ⟨HI, hHI⟩ : ∃ HI, (B && !(r &&& nd == 0)) = HI := ⟨_, rfl⟩
        go_upto_region 16 with fail
        go_cut [77] (fun s77 wx => s77 = .bool HI ∧ wx = w1.alloc (.cells #[.int .i64 xv, .int .u64 xp, .int .u64 (f : Int), .int .i64 (r : Int)] 115))
        case first =>
          subst hHI
          cases B
          · go_wp2
            go_meet
            exact ⟨rfl, rfl⟩
          · rcases Nat.eq_zero_or_pos (r &&& nd) with h | h
            · have hbit := HA4.out
              rw [h, show ((0 : Nat) : Int) = 0 from rfl] at hbit
              go_wp2
              go_meet
              exact ⟨by rw [h]; rfl, rfl⟩
            · have hbit : (bits .and .i64 (r : Int) (nd : Int) == 0) = false := by rw [HA4.out]; simp; omega
              have hbit2 : (bits .and .i64 (r : Int) (nd : Int) != 0) = true := by rw [HA4.out]; simp; omega
              go_wp2
              go_meet
              exact ⟨by simp; omega, rfl⟩
        case rest =>
        obtain ⟨rfl, rfl⟩ := hcut
        have HMS := Lib.hid hHI
        clear hHI HA4
        go_upto_if 77 with fail
        go_cut [14] (fun s14 wx => ∃ PA : Nat, s14 = .int .u64 (PA : Int) ∧ PA < 18446744073709551616 ∧ Hid (∃ own' l', Step (fun x => x = ct ∨ x = cd) own w own' wx ∧ UrefAt own' c d wx q p2 t2 s ms ∧ MemAt refK own' cm wx p2 0 n m ∧ TrefAt own' ct cd wx t2 room l' ∧ R = if hasR 0 n (PA : Int) (zk : Int) then (PA, 0, l') else (0, 3, l')))
        case first =>
          have hdiv : ((a / 4096 : Nat) : Int) = (a : Int) / 4096 := by omega
          cases HI
          · have hR2 := accL_miss (n := n) (m := m) (root := root) (room := room) (l := l) (d := k) (a := a) (size := zk) (acc := acc) (by
              intro t ht
              rw [hdiv, HLK.out] at ht
              have h1 := HMS.out
              obtain ⟨h2, h3, h4⟩ := HSM.out
              subst ht
              obtain rfl := h2 t rfl
              rw [HND.out]
              rw [← h3] at h1
              simp only [Int.toNat_natCast]
              simpa using h1)
            rw [HRl.out] at hR2
            have hG := rg_Guest (H2.out.2.2.1.step ((Step.refl (fun _ => False) own _).drew) (fun h => h)) root a acc hr0 hrtl ha (by omega)
            obtain ⟨g1, g2⟩ := guest_bd (n := n) (m := m) (a := a) (acc := acc) hr0
            obtain ⟨⟨G1, G2, G3⟩, hGG⟩ : ∃ G, guestP 0 n m root a acc = G := ⟨_, rfl⟩
            rw [hGG] at hR2 hG g1 g2
            simp only [] at hR2 hG g1 g2
            have HG := Lib.hid hG
            have HR2 := Lib.hid hR2
            clear hR2 HRl HSM HLK HMS HND hG hGG
            go_wp2_with fail
            generalize (w1.alloc (.cells #[.int .i64 xv, .int .u64 xp, .int .u64 (f : Int), .int .i64 (r : Int)] 115)) = w2 at *
            refine wpE_region (S := fun (W' : World) => W'.cell? ⟨q, 0, none⟩ = some (.pointer (some ⟨p2, 0, none⟩)) ∧ W'.cell? ⟨q, 2 + k, none⟩ = some (.int .u64 (root : Int))) (s := 19) (by kernel_rfl) ?_
            have hS : (fun (W' : World) => W'.cell? ⟨q, 0, none⟩ = some (.pointer (some ⟨p2, 0, none⟩)) ∧ W'.cell? ⟨q, 2 + k, none⟩ = some (.int .u64 (root : Int))) _ := ⟨d0, d2⟩
            refine wpE_take (i := 0) (oi := { dst := some 85, op := Go.Op.move (Go.Operand.tmp 0), type := 25, pos := "ref.go:141", after := #[], guard := none }) (v := ?_) rfl (by kernel_rfl) (fun _ _ _ h => h) (Or.inl ⟨by rfl, fun W hW => ?_⟩) hS ?_
            rotate_left
            · obtain ⟨hw1, hw2⟩ := hW; go_simp; (try go_bits); (try rw [if_pos (by omega)]); (try with_reducible rfl)
            (try simp only [Act.put, List.setIfInBounds_toArray, List.set_cons_succ, List.set_cons_zero])
            refine wpE_take (i := 1) (oi := { dst := some 86, op := Go.Op.nilCheck (Go.Operand.tmp 85), type := 0, pos := "ref.go:141", after := #[{ on := 0, ground := Go.Ground.data }], guard := none }) (v := ?_) rfl (by kernel_rfl) (fun _ _ _ h => h) (Or.inl ⟨by rfl, fun W hW => ?_⟩) hS ?_
            rotate_left
            · obtain ⟨hw1, hw2⟩ := hW; go_simp; (try go_bits); (try rw [if_pos (by omega)]); (try with_reducible rfl)
            (try simp only [Act.put, List.setIfInBounds_toArray, List.set_cons_succ, List.set_cons_zero])
            refine wpE_take (i := 2) (oi := { dst := some 87, op := Go.Op.fieldAddr 79 (Go.Operand.tmp 86) 0, type := 0, pos := "ref.go:141", after := #[{ on := 1, ground := Go.Ground.data }], guard := none }) (v := ?_) rfl (by kernel_rfl) (fun _ _ _ h => h) (Or.inl ⟨by rfl, fun W hW => ?_⟩) hS ?_
            rotate_left
            · obtain ⟨hw1, hw2⟩ := hW; go_simp; (try go_bits); (try rw [if_pos (by omega)]); (try with_reducible rfl)
            (try simp only [Act.put, List.setIfInBounds_toArray, List.set_cons_succ, List.set_cons_zero])
            refine wpE_take (i := 3) (oi := { dst := some 88, op := Go.Op.load 27 (Go.Operand.tmp 87), type := 27, pos := "ref.go:141", after := #[{ on := 2, ground := Go.Ground.data }], guard := none }) (v := ?_) rfl (by kernel_rfl) (fun _ _ _ h => h) (Or.inl ⟨by rfl, fun W hW => ?_⟩) hS ?_
            rotate_left
            · obtain ⟨hw1, hw2⟩ := hW; go_simp; (try go_bits); (try rw [if_pos (by omega)]); (try with_reducible rfl)
            (try simp only [Act.put, List.setIfInBounds_toArray, List.set_cons_succ, List.set_cons_zero])
            refine wpE_take (i := 4) (oi := { dst := some 89, op := Go.Op.move (Go.Operand.tmp 0), type := 25, pos := "ref.go:141", after := #[], guard := none }) (v := ?_) rfl (by kernel_rfl) (fun _ _ _ h => h) (Or.inl ⟨by rfl, fun W hW => ?_⟩) hS ?_
            rotate_left
            · obtain ⟨hw1, hw2⟩ := hW; go_simp; (try go_bits); (try rw [if_pos (by omega)]); (try with_reducible rfl)
            (try simp only [Act.put, List.setIfInBounds_toArray, List.set_cons_succ, List.set_cons_zero])
            refine wpE_take (i := 5) (oi := { dst := some 90, op := Go.Op.move (Go.Operand.tmp 1), type := 3, pos := "ref.go:141", after := #[], guard := none }) (v := ?_) rfl (by kernel_rfl) (fun _ _ _ h => h) (Or.inl ⟨by rfl, fun W hW => ?_⟩) hS ?_
            rotate_left
            · obtain ⟨hw1, hw2⟩ := hW; go_simp; (try go_bits); (try rw [if_pos (by omega)]); (try with_reducible rfl)
            (try simp only [Act.put, List.setIfInBounds_toArray, List.set_cons_succ, List.set_cons_zero])
            refine wpE_take (i := 6) (oi := { dst := some 91, op := Go.Op.nilCheck (Go.Operand.tmp 89), type := 0, pos := "ref.go:141", after := #[{ on := 4, ground := Go.Ground.data }], guard := none }) (v := ?_) rfl (by kernel_rfl) (fun _ _ _ h => h) (Or.inl ⟨by rfl, fun W hW => ?_⟩) hS ?_
            rotate_left
            · obtain ⟨hw1, hw2⟩ := hW; go_simp; (try go_bits); (try rw [if_pos (by omega)]); (try with_reducible rfl)
            (try simp only [Act.put, List.setIfInBounds_toArray, List.set_cons_succ, List.set_cons_zero])
            refine wpE_take (i := 7) (oi := { dst := some 92, op := Go.Op.fieldAddr 79 (Go.Operand.tmp 91) 2, type := 0, pos := "ref.go:141", after := #[{ on := 6, ground := Go.Ground.data }], guard := none }) (v := ?_) rfl (by kernel_rfl) (fun _ _ _ h => h) (Or.inl ⟨by rfl, fun W hW => ?_⟩) hS ?_
            rotate_left
            · obtain ⟨hw1, hw2⟩ := hW; go_simp; (try go_bits); (try rw [if_pos (by omega)]); (try with_reducible rfl)
            (try simp only [Act.put, List.setIfInBounds_toArray, List.set_cons_succ, List.set_cons_zero])
            refine wpE_take (i := 8) (oi := { dst := some 93, op := Go.Op.indexAddr 76 (Go.Operand.tmp 92) (Go.Operand.tmp 90), type := 0, pos := "ref.go:141", after := #[{ on := 7, ground := Go.Ground.data }, { on := 5, ground := Go.Ground.data }], guard := none }) (v := ?_) rfl (by kernel_rfl) (fun _ _ _ h => h) (Or.inl ⟨by rfl, fun W hW => ?_⟩) hS ?_
            rotate_left
            · obtain ⟨hw1, hw2⟩ := hW; go_simp; (try go_bits); (try rw [if_pos (by omega)]); (try with_reducible rfl)
            (try simp only [Act.put, List.setIfInBounds_toArray, List.set_cons_succ, List.set_cons_zero])
            refine wpE_take (i := 9) (oi := { dst := some 94, op := Go.Op.load 22 (Go.Operand.tmp 93), type := 22, pos := "ref.go:141", after := #[{ on := 8, ground := Go.Ground.data }], guard := none }) (v := ?_) rfl (by kernel_rfl) (fun _ _ _ h => h) (Or.inl ⟨by rfl, fun W hW => ?_⟩) hS ?_
            rotate_left
            · obtain ⟨hw1, hw2⟩ := hW; go_simp; (try go_bits); (try rw [if_pos (by omega)]); (try with_reducible rfl)
            (try simp only [Act.put, List.setIfInBounds_toArray, List.set_cons_succ, List.set_cons_zero])
            refine wpE_take (i := 10) (oi := { dst := some 95, op := Go.Op.move (Go.Operand.tmp 2), type := 22, pos := "ref.go:141", after := #[], guard := none }) (v := ?_) rfl (by kernel_rfl) (fun _ _ _ h => h) (Or.inl ⟨by rfl, fun W hW => ?_⟩) hS ?_
            rotate_left
            · obtain ⟨hw1, hw2⟩ := hW; go_simp; (try go_bits); (try rw [if_pos (by omega)]); (try with_reducible rfl)
            (try simp only [Act.put, List.setIfInBounds_toArray, List.set_cons_succ, List.set_cons_zero])
            refine wpE_take (i := 11) (oi := { dst := some 96, op := Go.Op.move (Go.Operand.tmp 12), type := 3, pos := "ref.go:141", after := #[], guard := none }) (v := ?_) rfl (by kernel_rfl) (fun _ _ _ h => h) (Or.inl ⟨by rfl, fun W hW => ?_⟩) hS ?_
            rotate_left
            · obtain ⟨hw1, hw2⟩ := hW; go_simp; (try go_bits); (try rw [if_pos (by omega)]); (try with_reducible rfl)
            (try simp only [Act.put, List.setIfInBounds_toArray, List.set_cons_succ, List.set_cons_zero])
            refine wpE_only (i := 12) (oi := { dst := some 97, op := Go.Op.call { callee := Go.Callee.value (Go.Operand.func 74), args := #[Go.Operand.tmp 88, Go.Operand.tmp 94, Go.Operand.tmp 95, Go.Operand.tmp 96], argTypes := #[27, 22, 22, 3] }, type := 132, pos := "ref.go:141", after := #[{ on := 3, ground := Go.Ground.data }, { on := 9, ground := Go.Ground.data }, { on := 10, ground := Go.Ground.data }, { on := 11, ground := Go.Ground.data }], guard := none }) rfl (by kernel_rfl) (by rfl) (fun K hK => ?_)
            go_simp; refine HG.out.mono ?_; rintro e w4 ⟨rfl, hU4⟩
            have hst4 : Step (fun _ => False) own w2 own w4 := (show Step (fun _ => False) own w2 own w2.drew from (Step.refl _ _ _).drew).trans ⟨hU4, fun _ _ => rfl⟩
            have hU5 := H2.out.2.1.step hst4 (fun h => h) (fun h => h)
            have hT5 := H2.out.2.2.2.1.step hst4 (fun h => h) (fun h => h)
            have H5 := Lib.hid (And.intro (H2.out.1.trans hst4) (And.intro hU5 (And.intro (H2.out.2.2.1.step hst4 (fun h => h)) hT5)))
            have f0 := hU5.cells.1
            have f1 := hU5.cells.2.1
            have f2 := hU5.root k hk8
            rw [HRt.out] at f2
            have HP := Lib.hid (tref_Put hT5 hct.2.2.2.2.2.2 ⟨k, ((a / 4096 : Nat) : Int), ((G1 / 4096 : Nat) : Int), (G2 : Int)⟩)
            clear hst4 hU5 hT5 hU4 HG
            have hS := And.intro f0 f2
            refine hK _ _ hS ?_; clear hK K
            (try simp only [Act.put, List.setIfInBounds_toArray, List.set_cons_succ, List.set_cons_zero])
            refine wpE_take (i := 13) (oi := { dst := some 84, op := Go.Op.move (Go.Operand.tmp 97), type := 132, pos := "ref.go:141", after := #[{ on := 12, ground := Go.Ground.data }], guard := none }) (v := ?_) rfl (by kernel_rfl) (fun _ _ _ h => h) (Or.inl ⟨by rfl, fun W hW => ?_⟩) hS ?_
            rotate_left
            · obtain ⟨hw1, hw2⟩ := hW; go_simp; (try go_bits); (try rw [if_pos (by omega)]); (try with_reducible rfl)
            (try simp only [Act.put, List.setIfInBounds_toArray, List.set_cons_succ, List.set_cons_zero])
            refine wpE_take (i := 14) (oi := { dst := some 98, op := Go.Op.extract (Go.Operand.tmp 84) 0, type := 22, pos := "ref.go:141", after := #[{ on := 13, ground := Go.Ground.data }], guard := none }) (v := ?_) rfl (by kernel_rfl) (fun _ _ _ h => h) (Or.inl ⟨by rfl, fun W hW => ?_⟩) hS ?_
            rotate_left
            · obtain ⟨hw1, hw2⟩ := hW; go_simp; (try go_bits); (try rw [if_pos (by omega)]); (try with_reducible rfl)
            (try simp only [Act.put, List.setIfInBounds_toArray, List.set_cons_succ, List.set_cons_zero])
            refine wpE_take (i := 15) (oi := { dst := some 99, op := Go.Op.extract (Go.Operand.tmp 84) 1, type := 3, pos := "ref.go:141", after := #[{ on := 13, ground := Go.Ground.data }, { on := 17, ground := Go.Ground.gcOnly Go.Departure.lateStores }], guard := none }) (v := ?_) rfl (by kernel_rfl) (fun _ _ _ h => h) (Or.inl ⟨by rfl, fun W hW => ?_⟩) hS ?_
            rotate_left
            · obtain ⟨hw1, hw2⟩ := hW; go_simp; (try go_bits); (try rw [if_pos (by omega)]); (try with_reducible rfl)
            (try simp only [Act.put, List.setIfInBounds_toArray, List.set_cons_succ, List.set_cons_zero])
            refine wpE_take (i := 16) (oi := { dst := some 100, op := Go.Op.extract (Go.Operand.tmp 84) 2, type := 3, pos := "ref.go:141", after := #[{ on := 13, ground := Go.Ground.data }, { on := 18, ground := Go.Ground.gcOnly Go.Departure.lateStores }], guard := none }) (v := ?_) rfl (by kernel_rfl) (fun _ _ _ h => h) (Or.inl ⟨by rfl, fun W hW => ?_⟩) hS ?_
            rotate_left
            · obtain ⟨hw1, hw2⟩ := hW; go_simp; (try go_bits); (try rw [if_pos (by omega)]); (try with_reducible rfl)
            (try simp only [Act.put, List.setIfInBounds_toArray, List.set_cons_succ, List.set_cons_zero])
            refine wpE_only (i := 17) (oi := { dst := some 17, op := Go.Op.assign (Go.Operand.tmp 98), type := 22, pos := "ref.go:141", after := #[{ on := 14, ground := Go.Ground.data }, { on := 12, ground := Go.Ground.chain }, { on := 0, ground := Go.Ground.phase }, { on := 1, ground := Go.Ground.phase }, { on := 2, ground := Go.Ground.phase }, { on := 3, ground := Go.Ground.phase }, { on := 4, ground := Go.Ground.phase }, { on := 5, ground := Go.Ground.phase }, { on := 6, ground := Go.Ground.phase }, { on := 7, ground := Go.Ground.phase }, { on := 8, ground := Go.Ground.phase }, { on := 9, ground := Go.Ground.phase }, { on := 10, ground := Go.Ground.phase }, { on := 11, ground := Go.Ground.phase }, { on := 12, ground := Go.Ground.phase }, { on := 13, ground := Go.Ground.phase }, { on := 14, ground := Go.Ground.phase }, { on := 15, ground := Go.Ground.textOnly Go.Departure.lateStores }, { on := 16, ground := Go.Ground.textOnly Go.Departure.lateStores }], guard := none }) rfl (by kernel_rfl) (by rfl) (fun K hK => ?_)
            go_simp; (try go_bits); refine hK _ _ hS ?_; clear hK K
            (try simp only [Act.put, List.setIfInBounds_toArray, List.set_cons_succ, List.set_cons_zero])
            refine wpE_only (i := 18) (oi := { dst := some 18, op := Go.Op.assign (Go.Operand.tmp 99), type := 3, pos := "ref.go:141", after := #[{ on := 15, ground := Go.Ground.data }, { on := 17, ground := Go.Ground.chain }, { on := 0, ground := Go.Ground.phase }, { on := 1, ground := Go.Ground.phase }, { on := 2, ground := Go.Ground.phase }, { on := 3, ground := Go.Ground.phase }, { on := 4, ground := Go.Ground.phase }, { on := 5, ground := Go.Ground.phase }, { on := 6, ground := Go.Ground.phase }, { on := 7, ground := Go.Ground.phase }, { on := 8, ground := Go.Ground.phase }, { on := 9, ground := Go.Ground.phase }, { on := 10, ground := Go.Ground.phase }, { on := 11, ground := Go.Ground.phase }, { on := 12, ground := Go.Ground.phase }, { on := 13, ground := Go.Ground.phase }, { on := 14, ground := Go.Ground.phase }, { on := 15, ground := Go.Ground.phase }, { on := 16, ground := Go.Ground.textOnly Go.Departure.lateStores }, { on := 17, ground := Go.Ground.phase }], guard := none }) rfl (by kernel_rfl) (by rfl) (fun K hK => ?_)
            go_simp; (try go_bits); refine hK _ _ hS ?_; clear hK K
            (try simp only [Act.put, List.setIfInBounds_toArray, List.set_cons_succ, List.set_cons_zero])
            refine wpE_last (oi := { dst := some 19, op := Go.Op.assign (Go.Operand.tmp 100), type := 3, pos := "ref.go:141", after := #[{ on := 16, ground := Go.Ground.data }, { on := 18, ground := Go.Ground.chain }, { on := 0, ground := Go.Ground.phase }, { on := 1, ground := Go.Ground.phase }, { on := 2, ground := Go.Ground.phase }, { on := 3, ground := Go.Ground.phase }, { on := 4, ground := Go.Ground.phase }, { on := 5, ground := Go.Ground.phase }, { on := 6, ground := Go.Ground.phase }, { on := 7, ground := Go.Ground.phase }, { on := 8, ground := Go.Ground.phase }, { on := 9, ground := Go.Ground.phase }, { on := 10, ground := Go.Ground.phase }, { on := 11, ground := Go.Ground.phase }, { on := 12, ground := Go.Ground.phase }, { on := 13, ground := Go.Ground.phase }, { on := 14, ground := Go.Ground.phase }, { on := 15, ground := Go.Ground.phase }, { on := 16, ground := Go.Ground.phase }, { on := 17, ground := Go.Ground.phase }, { on := 18, ground := Go.Ground.phase }], guard := none }) rfl (by kernel_rfl) (by kernel_rfl) (by rfl) (fun K hK => ?_)
            go_simp; (try go_bits); refine hK _ _ ?_; clear hK K
            clear hS
            by_cases hg : G3 = 0
            · subst hg
              have hgz : ((0 : Int) != 0) = false := rfl
              simp only [hdiv, show ((G1 / 4096 : Nat) : Int) = (G1 : Int) / 4096 from by omega] at HP
              go_wp2_with fail
              ((with_reducible refine HP.out.mono ?_); rintro e w6 ⟨rfl, own6, hS6, hT6⟩)
              have H6 := Lib.hid (And.intro ((H5.out.1.mono (C' := fun x => x = ct ∨ x = cd) (fun _ h => h.elim)).trans hS6) (And.intro (H5.out.2.1.step hS6 (by omega) (by omega)) (And.intro (H5.out.2.2.1.step hS6 (by omega)) hT6)))
              clear HP hS6 hT6
              go_wp2
              go_meet
              have h := HR2.out
              simp only [ne_eq, not_true_eq_false, if_false] at h
              refine ⟨G1, rfl, by omega, own6, _, H6.out.1, H6.out.2.1, H6.out.2.2.1, H6.out.2.2.2, ?_⟩
              simp only [hdiv, show ((G1 / 4096 : Nat) : Int) = (G1 : Int) / 4096 from by omega] at h
              exact h
            · have hgz : (G3 == 0) = false := by simpa using hg
              have hgn : (G3 != 0) = true := by simpa using hg
              have h := HR2.out
              rw [if_pos hg] at h
              have hB := HBL.out 2 w4 own l (by omega) h (H5.out.1.mono (fun _ h => h.elim)) H5.out.2.2.2
              rw [show ((2 : Nat) : Int) = 2 from rfl] at hB
              have HB := Lib.hid hB
              have HRe := Lib.hid h
              clear hB h HP HR2
              go_wp2_with fail
              ((with_reducible refine HB.out.mono ?_); rintro e w6 ⟨rfl, H6⟩)
              clear HB
              go_wp2
              go_ret2
              rw [HRe.out]
              exact ⟨rfl, by have := H6.out; rw [HRe.out] at this; exact this⟩
          · have hR2 : R = if hasR 0 n ((f * 4096 + a % 4096 : Nat) : Int) (zk : Int) then (f * 4096 + a % 4096, 0, l) else (0, 3, l) := by
              have h1 := HMS.out
              obtain ⟨h2, h3, h4⟩ := HSM.out
              cases LK with
              | none => rw [← h3] at h1; cases h1
              | some t =>
                obtain rfl := h2 t rfl
                have hq : r &&& nd ≠ 0 := by rw [← h3] at h1; simpa using h1
                rw [← HRl.out]
                exact accL_hit2 (xv := xv) (xp := xp) (f := f) (r := r) (by rw [hdiv]; exact HLK.out) (by rw [HND.out]; exact hq)
            have HR2 := Lib.hid hR2
            clear hR2 HRl HSM HLK HMS HND
            go_wp2
            go_meet
            refine ⟨f * 4096 + a % 4096, ?_, by omega, own, l, H2.out.1.mono (fun _ h => h.elim), H2.out.2.1, H2.out.2.2.1, H2.out.2.2.2.1, HR2.out⟩
            rw [show ((f * 4096 + a % 4096 : Nat) : Int) = (f : Int) * 4096 + (a : Int) % 4096 from by omega]
        case rest =>
          obtain ⟨PA, rfl, hPA, HC⟩ := hcut
          obtain ⟨own3, l3, hS3, hU3, hM3, hT3, hR3⟩ := HC.out
          obtain ⟨e0, _⟩ := hU3.cells
          have hHas := mref_Has hM3 (PA : Int) (zk : Int) (by omega) (by omega) (by omega) (by omega)
          obtain ⟨B2, hB2⟩ : ∃ B2, hasR 0 n (PA : Int) (zk : Int) = B2 := ⟨_, rfl⟩
          rw [hB2] at hHas hR3
          have HH := Lib.hid hHas
          cases B2
          · simp only [Bool.false_eq_true, if_false] at hR3
            have hB := HBL.out 3 _ own3 l3 (by omega) hR3 hS3 hT3
            rw [show ((3 : Nat) : Int) = 3 from rfl] at hB
            have HB := Lib.hid hB
            have HRe := Lib.hid hR3
            clear hB hR3 hS3 hU3 hM3 hT3 hHas hB2 HC H2 HSM HLK HMS HND HRl d0 d1 d2
            go_wp2_with fail
            ((with_reducible refine HH.out.mono ?_); rintro e wz ⟨rfl, rfl⟩)
            clear HH
            go_wp2_with fail
            ((with_reducible refine HB.out.mono ?_); rintro e w6 ⟨rfl, H6⟩)
            clear HB
            go_wp2
            go_ret2
            rw [HRe.out]
            exact ⟨rfl, by have := H6.out; rw [HRe.out] at this; exact this⟩
          · simp only [if_true] at hR3
            have HF := Lib.hid (show R = (PA, 0, l3) ∧ Step (fun x => x = c ∨ x = cm ∨ x = ct ∨ x = cd) own w own3 _ ∧ UrefAt own3 c d _ q p2 t2 s ms ∧ MemAt refK own3 cm _ p2 0 n m ∧ TrefAt own3 ct cd _ t2 room l3 from ⟨hR3, hS3.mono (fun _ h => by omega), hU3, hM3, hT3⟩)
            clear hR3 hS3 hU3 hM3 hT3 hHas hB2 HC H2 HSM HLK HMS HND HRl d0 d1 d2
            go_wp2_with fail
            ((with_reducible refine HH.out.mono ?_); rintro e wz ⟨rfl, rfl⟩)
            clear HH
            go_wp2
            go_ret2
            rw [HF.out.1]
            exact ⟨rfl, own3, HF.out.2.1, by simp only []; unfold accSt; rw [if_pos (.inl rfl)]; exact HF.out.2.2.1, by simp only []; unfold accMt; rw [if_pos (.inl rfl)]; exact HF.out.2.2.2.1, HF.out.2.2.2.2⟩
  · have hde : (!decide (0 ≤ dev ∧ dev < 8)) = true := by rw [decide_eq_false hd]; rfl
    have hk := accA_kind n m s room l dev a sz wr
    have hrp : rootP s dev = 0 := by unfold rootP; rw [if_neg hd]
    have hRe : R.1 = 0 ∧ R.2.1 ≠ 0 ∧ R.2.2 = l := by
      rw [← hR]; unfold accA
      split
      · simp
      · first | (simp; done) | (rw [if_pos hrp]; simp)
    obtain ⟨R1, R2, R3⟩ := R
    obtain ⟨rfl, h2, rfl⟩ := hRe
    simp only [] at h2 ⊢
    have e1 : accSt s dev R2 = s := by unfold accSt; rw [if_pos (.inr hd)]
    have e2 : accMt s m dev R2 a = m := by unfold accMt; rw [if_pos (.inr hd)]
    rw [e1, e2, show (R2 == 0) = false from by simpa using h2]
    have HF := Lib.hid (And.intro (Step.refl (fun x => x = c ∨ x = cm ∨ x = ct ∨ x = cd) own w) (And.intro hU (And.intro hM hT)))
    clear hU hM hT hl hok hR hk hrp e1 e2 hd
    go_enter Try.func43, Try.ntmps43
    go_wp2_with fail
    ((with_reducible refine HTn.out.mono ?_); rintro e wz ⟨rfl, rfl⟩)
    rw [hde]
    clear HTn
    go_wp2
    go_ret2
    exact ⟨rfl, own, HF.out⟩
end
end Go.Proofs.Ytlgcplekcmocbaa
