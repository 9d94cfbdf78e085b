import Derived.Test.YtonhlgfgbdiapaaGreatIoA2
import Derived.Test.YtonhlgfgbdiapaaGreatIoS
/- The IOMMU: translate, of a device with a table. -/
namespace Go.Proofs.YtonhlgfgbdiapaaGreat
set_option linter.unusedVariables false
set_option linter.unusedSimpArgs false
open Go.RowKit
set_option maxRecDepth 100000

def accW (wr : Bool) : Nat := if wr then 3 else 2
/-- entries as the IOMMU makes them -/
def EntsOk (l : List Tr) : Prop := ∀ t ∈ l, (0 ≤ t.f ∧ t.f < 4503599627370496) ∧ 0 ≤ t.r ∧ t.r < 16
theorem and4 (r nd : Nat) (hr : r < 16) (hn : nd = 2 ∨ nd = 4) : bits .and .i64 (r : Int) (nd : Int) = ((r &&& nd : Nat) : Int) := by
  have key : ∀ r : Nat, r < 16 → ∀ nd ∈ ([2, 4] : List Nat), bits .and .i64 (r : Int) (nd : Int) = ((r &&& nd : Nat) : Int) := by decide +kernel
  exact key r hr nd (by simp; omega)
theorem guest_bd {n : Nat} {m : Nat → Int} {root a acc : Nat} (hr : root ≠ 0) : (guestP 0 n m root a acc).1 < 144115188075855872 ∧ (guestP 0 n m root a acc).2.1 < 16 := by
  have hp : ∀ e, permE e < 16 := fun e => by
    unfold permE
    split
    · exact Nat.lt_of_le_of_lt Nat.and_le_right (by decide)
    · exact Nat.lt_of_le_of_lt Nat.and_le_right (by decide)
  unfold guestP
  rw [if_neg hr]
  split
  · exact ⟨by decide, by decide⟩
  · split
    · exact ⟨by decide, by decide⟩
    · split
      · refine ⟨?_, hp _⟩
        show plcE _ _ _ < _
        unfold plcE
        have h1 := nxt_lt (dnG 0 n m a 2 root).2.1
        have h2 : a % 2 ^ (12 + 9 * (dnG 0 n m a 2 root).2.2) ≤ a := Nat.mod_le _ _
        omega
      · exact ⟨by decide, by decide⟩
theorem EntsOk.put {l : List Tr} (h : EntsOk l) {t : Tr} (ht : (0 ≤ t.f ∧ t.f < 4503599627370496) ∧ 0 ≤ t.r ∧ t.r < 16) (room : Nat) : EntsOk (putT room l t) := by
  have hsub : ∀ x ∈ flushP l t.v t.p, x ∈ l := fun x hx => (List.mem_filter.1 hx).1
  intro x hx
  unfold putT at hx
  rcases List.mem_append.1 hx with hx | hx
  · refine h x (hsub x ?_)
    split at hx
    · exact List.mem_of_mem_drop hx
    · exact hx
  · rw [List.mem_singleton.1 hx]; exact ht
theorem accL_hit {n : Nat} {m : Nat → Int} {root room : Nat} {l : List Tr} {d a size acc : Nat} {t : Tr} (h : lookT l d (a / 4096 : Nat) = some t) (hq : t.r.toNat &&& needN acc ≠ 0) :
    accL n m root room l d a size acc = if hasR 0 n ((t.f.toNat * 4096 + a % 4096 : Nat) : Int) (size : Int) then (t.f.toNat * 4096 + a % 4096, 0, l) else (0, 3, l) := by
  unfold accL
  rw [h]
  simp only []
  rw [if_pos hq]
theorem accL_hit2 {n : Nat} {m : Nat → Int} {root room : Nat} {l : List Tr} {d a size acc : Nat} {xv xp : Int} {f r : Nat} (h : lookT l d (a / 4096 : Nat) = some ⟨xv, xp, (f : Int), (r : Int)⟩) (hq : r &&& needN acc ≠ 0) :
    accL n m root room l d a size acc = if hasR 0 n ((f * 4096 + a % 4096 : Nat) : Int) (size : Int) then (f * 4096 + a % 4096, 0, l) else (0, 3, l) := by
  have e := accL_hit (n := n) (m := m) (root := root) (room := room) (size := size) h (by simp only [Int.toNat_natCast]; exact hq)
  simp only [Int.toNat_natCast] at e
  exact e
theorem accL_miss {n : Nat} {m : Nat → Int} {root room : Nat} {l : List Tr} {d a size acc : Nat} (h : ∀ t, lookT l d (a / 4096 : Nat) = some t → t.r.toNat &&& needN acc = 0) :
    accL n m root room l d a size acc = if (guestP 0 n m root a acc).2.2 ≠ 0 then (0, 2, l) else if hasR 0 n ((guestP 0 n m root a acc).1 : Int) (size : Int) then ((guestP 0 n m root a acc).1, 0, putT room l ⟨d, (a / 4096 : Nat), ((guestP 0 n m root a acc).1 / 4096 : Nat), ((guestP 0 n m root a acc).2.1 : Nat)⟩) else (0, 3, putT room l ⟨d, (a / 4096 : Nat), ((guestP 0 n m root a acc).1 / 4096 : Nat), ((guestP 0 n m root a acc).2.1 : Nat)⟩) := by
  unfold accL
  cases hl : lookT l d (a / 4096 : Nat) with
  | none => rfl
  | some t =>
    simp only []
    rw [if_neg (by rw [h t hl]; simp)]
section
variable {own : Nat → Nat} {c cm ct cd p rp tp n room : Nat} {w : World} {s : Us} {m : Nat → Int} {l : List Tr}
set_option maxHeartbeats 1000000 in
theorem io_translate (hU : UsAt own c w p rp tp s) (hM : MemAt ramK own cm w rp 0 n m) (hT : TlbAt own ct cd w tp room l) (hct : c ≠ ct ∧ c ≠ cd ∧ cm ≠ ct ∧ cm ≠ cd ∧ ct ≠ cd ∧ cm ≠ 7) (hok : UsOk n s) (hl : EntsOk l)
    (d a k : Nat) (hd : d < 8) (hr : s.rt d ≠ 0) (ha : a < 18446744073709551616) (hk : k = 1 ∨ k = 2 ∨ k = 4 ∨ k = 8) (hal : a % k = 0) (wr : Bool) :
    Calls Tryz.prog 35 #[.pointer (some ⟨p, 0, none⟩), .int .i64 (d : Int), .int .u64 (a : Int), .int .i64 (k : Int), .bool wr] w fun e w' =>
      e = .returned (.tuple #[.int .u64 ((accL n m (s.rt d) room l d a k (accW wr)).1 : Nat), .int .i64 ((accL n m (s.rt d) room l d a k (accW wr)).2.1 : Nat)]) ∧
      ∃ own', Step (fun x => x = ct ∨ x = cd) own w own' w' ∧ UsAt own' c w' p rp tp s ∧ MemAt ramK own' cm w' rp 0 n m ∧ TlbAt own' ct cd w' tp room (accL n m (s.rt d) room l d a k (accW wr)).2.2 ∧ EntsOk (accL n m (s.rt d) room l d a k (accW wr)).2.2 := by
  obtain ⟨R, hR⟩ : ∃ R, accL n m (s.rt d) room l d a k (accW wr) = R := ⟨_, rfl⟩
  rw [hR]
  have hRo := io_Root hU (d : Int)
  rw [show rootP s (d : Int) = s.rt d from by unfold rootP; rw [if_pos (by omega)]; rfl] at hRo
  have hrt := hok.root d
  have hr0 : ((s.rt d : Int) == 0) = false := by simp; omega
  obtain ⟨c0, c1, _⟩ := hU.rest
  have H0 := Lib.hid (And.intro hU (And.intro hM (And.intro hT hl)))
  have HR := Lib.hid hR
  have HRo := Lib.hid hRo
  generalize s.rt d = root at *
  clear hU hM hT hl hR hRo hok
  go_enter Tryz.func35, Tryz.ntmps35
  go_upto_region 1 with fail
  go_cut [40] (fun s40 wx => s40 = .bool false ∧ w = wx)
  case first =>
    rcases hk with rfl | rfl | rfl | rfl
    · have hz : (a : Int) % 1 = 0 := by omega
      rw [show ((1 : Nat) : Int) = 1 from rfl]
      go_wp2
      go_meet
      exact ⟨rfl, rfl⟩
    · have hz : (a : Int) % 2 = 0 := by omega
      rw [show ((2 : Nat) : Int) = 2 from rfl]
      go_wp2
      go_meet
      exact ⟨rfl, rfl⟩
    · have hz : (a : Int) % 4 = 0 := by omega
      rw [show ((4 : Nat) : Int) = 4 from rfl]
      go_wp2
      go_meet
      exact ⟨rfl, rfl⟩
    · have hz : (a : Int) % 8 = 0 := by omega
      rw [show ((8 : Nat) : Int) = 8 from rfl]
      go_wp2
      go_meet
      exact ⟨rfl, rfl⟩
  case rest =>
    obtain ⟨rfl, rfl⟩ := hcut
    go_wp2_with fail
    ((with_reducible refine HRo.out.mono ?_); rintro e wz ⟨rfl, rfl⟩)
    clear HRo
    go_upto_if 46 with fail
    go_cut [13, 14] (fun s13 s14 wx => s13 = .int .i64 (accW wr : Int) ∧ s14 = .int .i64 (needN (accW wr) : Int) ∧ w = wx)
    case first =>
      cases wr
      · go_wp2
        go_meet
        exact ⟨rfl, rfl, rfl⟩
      · go_wp2
        go_meet
        exact ⟨rfl, rfl, rfl⟩
    case rest =>
      obtain ⟨rfl, rfl, rfl⟩ := hcut
      obtain ⟨LK, hLK⟩ : ∃ LK, lookT l (d : Int) ((a : Int) / 4096) = LK := ⟨_, rfl⟩
      have hL := tlb_Look H0.out.2.2.1 (d : Int) ((a : Int) / 4096)
      rw [hLK] at hL
      have HLo := Lib.hid hL
      have HLK := Lib.hid hLK
      have hacc : accW wr = 2 ∨ accW wr = 3 := by unfold accW; split <;> simp
      generalize accW wr = acc at *
      have hnd : needN acc = 2 ∨ needN acc = 4 := by unfold needN; split <;> simp
      obtain ⟨nd, hnde⟩ : ∃ nd, needN acc = nd := ⟨_, rfl⟩
      rw [hnde] at hnd ⊢
      have HND := Lib.hid hnde
      obtain ⟨X, hX⟩ : ∃ X, LK.getD tr0 = X := ⟨_, rfl⟩
      have hXb : (0 ≤ X.f ∧ X.f < 4503599627370496) ∧ 0 ≤ X.r ∧ X.r < 16 := by
        rw [← hX]
        cases LK with
        | none => decide
        | some t => exact H0.out.2.2.2 t (List.mem_of_find?_eq_some hLK)
      have hsome : ∀ t, LK = some t → t = X := fun t ht => by rw [← hX, ht]; rfl
      obtain ⟨B, hB⟩ : ∃ B, LK.isSome = B := ⟨_, rfl⟩
      have HSM := Lib.hid (And.intro hsome (And.intro hB hX))
      obtain ⟨xv, xp, xf, xr⟩ := X
      rw [hX, hB] at HLo
      simp only [] at HLo hXb
      obtain ⟨f, rfl⟩ := Int.eq_ofNat_of_zero_le hXb.1.1
      obtain ⟨r, rfl⟩ := Int.eq_ofNat_of_zero_le hXb.2.1
      have hf : f < 4503599627370496 := by omega
      have hr16 : r < 16 := by omega
      have HA4 := Lib.hid (and4 r nd hr16 hnd)
      clear hL hLK hnde hX hXb hsome hB
      go_wp2_with fail
      ((with_reducible refine HLo.out.mono ?_); rintro e w1 ⟨rfl, hU1⟩)
      clear HLo
      have hst : Step (fun _ => False) own w own (w1.alloc (.cells #[.int .i64 xv, .int .u64 xp, .int .u64 (f : Int), .int .i64 (r : Int)] 153)) := (show Step (fun _ => False) own w own w1 from ⟨hU1, fun _ _ => rfl⟩).trans (step_allocS own w1 _)
      have hU2 := H0.out.1.step hst (fun h => h)
      have hM2 := H0.out.2.1.step hst (fun h => h)
      have hT2 := H0.out.2.2.1.step hst (fun h => h) (fun h => h)
      obtain ⟨d0, d1, _⟩ := hU2.rest
      have H2 := Lib.hid (And.intro hst (And.intro hU2 (And.intro hM2 (And.intro hT2 H0.out.2.2.2))))
      clear hst hU2 hM2 hT2 hU1 c0 c1 H0
      obtain ⟨MS, hMS⟩ : ∃ MS, (!B || (r &&& nd == 0)) = MS := ⟨_, rfl⟩
      go_upto_region 11 with fail
      go_cut [73] (fun s73 wx => s73 = .bool MS ∧ wx = w1.alloc (.cells #[.int .i64 xv, .int .u64 xp, .int .u64 (f : Int), .int .i64 (r : Int)] 153))
      case first =>
        subst hMS
        cases B
        · go_wp2
          go_meet
          exact ⟨rfl, rfl⟩
        · rcases Nat.eq_zero_or_pos (r &&& nd) with h | h
          · have hbit := HA4.out
            rw [h, show ((0 : Nat) : Int) = 0 from rfl] at hbit
            go_wp2
            go_meet
            exact ⟨by rw [h]; rfl, rfl⟩
          · have hbit : (bits .and .i64 (r : Int) (nd : Int) == 0) = false := by rw [HA4.out]; simp; omega
            go_wp2
            go_meet
            exact ⟨by simp; omega, rfl⟩
      case rest =>
      obtain ⟨rfl, rfl⟩ := hcut
      have HMS := Lib.hid hMS
      clear hMS HA4
      go_upto_if 73 with fail
      go_cut [10] (fun s10 wx => ∃ PA : Nat, s10 = .int .u64 (PA : Int) ∧ PA < 18446744073709551616 ∧ Hid (∃ own' l', Step (fun x => x = ct ∨ x = cd) own w own' wx ∧ UsAt own' c wx p rp tp s ∧ MemAt ramK own' cm wx rp 0 n m ∧ TlbAt own' ct cd wx tp room l' ∧ EntsOk l' ∧ R = if hasR 0 n (PA : Int) (k : Int) then (PA, 0, l') else (0, 3, l')))
      case first =>
        have hdiv : ((a / 4096 : Nat) : Int) = (a : Int) / 4096 := by omega
        cases MS
        · have hR2 : R = if hasR 0 n ((f * 4096 + a % 4096 : Nat) : Int) (k : Int) then (f * 4096 + a % 4096, 0, l) else (0, 3, l) := by
            have h1 := HMS.out
            obtain ⟨h2, h3, h4⟩ := HSM.out
            cases LK with
            | none => rw [← h3] at h1; cases h1
            | some t =>
              obtain rfl := h2 t rfl
              have hq : r &&& nd ≠ 0 := by rw [← h3] at h1; simpa using h1
              rw [← HR.out]
              exact accL_hit2 (xv := xv) (xp := xp) (f := f) (r := r) (by rw [hdiv]; exact HLK.out) (by rw [HND.out]; exact hq)
          have HR2 := Lib.hid hR2
          clear hR2 HR HSM HLK HMS HND
          go_wp2
          go_meet
          refine ⟨f * 4096 + a % 4096, ?_, by omega, own, l, H2.out.1.mono (fun _ h => h.elim), H2.out.2.1, H2.out.2.2.1, H2.out.2.2.2.1, H2.out.2.2.2.2, HR2.out⟩
          rw [show ((f * 4096 + a % 4096 : Nat) : Int) = (f : Int) * 4096 + (a : Int) % 4096 from by omega]
        · have hR2 := accL_miss (n := n) (m := m) (root := root) (room := room) (l := l) (d := d) (a := a) (size := k) (acc := acc) (by
            intro t ht
            rw [hdiv, HLK.out] at ht
            have h1 := HMS.out
            obtain ⟨h2, h3, h4⟩ := HSM.out
            subst ht
            obtain rfl := h2 t rfl
            rw [HND.out]
            rw [← h3] at h1
            simp only [Int.toNat_natCast]
            simpa using h1)
          rw [HR.out] at hR2
          have hG := page_GuestG (b0 := 0) (root := root) (a := a) (acc := acc) H2.out.2.2.1 hct.2.2.2.2.2 (by omega) ha (by omega)
          obtain ⟨g1, g2⟩ := guest_bd (n := n) (m := m) (a := a) (acc := acc) hr
          obtain ⟨⟨G1, G2, G3⟩, hGG⟩ : ∃ G, guestP 0 n m root a acc = G := ⟨_, rfl⟩
          rw [hGG] at hR2 hG g1 g2
          simp only [] at hR2 hG g1 g2
          have HG := Lib.hid hG
          have HR2 := Lib.hid hR2
          clear hR2 HR HSM HLK HMS HND hG hGG
          go_wp2_with fail
          ((with_reducible refine HG.out.mono ?_); rintro e w4 ⟨rfl, hU4⟩)
          clear HG
          have hst4 : Step (fun _ => False) own _ own w4 := ⟨hU4, fun _ _ => rfl⟩
          have hU5 := H2.out.2.1.step hst4 (fun h => h)
          have hT5 := H2.out.2.2.2.1.step hst4 (fun h => h) (fun h => h)
          have H5 := Lib.hid (And.intro (H2.out.1.trans hst4) (And.intro hU5 (And.intro (H2.out.2.2.1.step hst4 (fun h => h)) (And.intro hT5 H2.out.2.2.2.2))))
          obtain ⟨_, e1, _⟩ := hU5.rest
          have HP := Lib.hid (tlb_Put hT5 hct.2.2.2.2.1 ⟨d, ((a / 4096 : Nat) : Int), ((G1 / 4096 : Nat) : Int), (G2 : Int)⟩)
          clear hst4 hU5 hT5 hU4 H2 d0 d1
          by_cases hg : G3 = 0
          · subst hg
            have hgz : ((0 : Int) != 0) = false := rfl
            simp only [hdiv, show ((G1 / 4096 : Nat) : Int) = (G1 : Int) / 4096 from by omega] at HP
            go_wp2_with fail
            ((with_reducible refine HP.out.mono ?_); rintro e w6 ⟨rfl, own6, hS6, hT6⟩)
            have H6 := Lib.hid (And.intro ((H5.out.1.mono (C' := fun x => x = ct ∨ x = cd) (fun _ h => h.elim)).trans hS6) (And.intro (H5.out.2.1.step hS6 (by omega)) (And.intro (H5.out.2.2.1.step hS6 (by omega)) hT6)))
            clear HP hS6 hT6
            go_wp2
            go_meet
            have h := HR2.out
            simp only [ne_eq, not_true_eq_false, if_false] at h
            refine ⟨G1, rfl, by omega, own6, _, H6.out.1, H6.out.2.1, H6.out.2.2.1, H6.out.2.2.2, H5.out.2.2.2.2.put (by simp only []; omega) room, ?_⟩
            simp only [hdiv, show ((G1 / 4096 : Nat) : Int) = (G1 : Int) / 4096 from by omega] at h
            exact h
          · have hgz : (G3 == 0) = false := by simpa using hg
            have hgn : (G3 != 0) = true := by simpa using hg
            have h := HR2.out
            rw [if_pos hg] at h
            subst h
            clear HP HR2
            go_wp2
            go_ret2
            exact ⟨rfl, own, H5.out.1.mono (fun _ h => h.elim), H5.out.2.1, H5.out.2.2.1, H5.out.2.2.2.1, H5.out.2.2.2.2⟩
      case rest =>
        obtain ⟨PA, rfl, hPA, HC⟩ := hcut
        obtain ⟨own3, l3, hS3, hU3, hM3, hT3, hl3, hR3⟩ := HC.out
        obtain ⟨e0, _⟩ := hU3.rest
        have hHas := ram_hasC hM3 (PA : Int) (k : Int) (by omega) (by omega) (by omega) (by omega)
        obtain ⟨B2, hB2⟩ : ∃ B2, hasR 0 n (PA : Int) (k : Int) = B2 := ⟨_, rfl⟩
        rw [hB2] at hHas hR3
        have HH := Lib.hid hHas
        have H3 := Lib.hid (fun q => And.intro hR3 (show ∃ own', Step (fun x => x = ct ∨ x = cd) own w own' (World.drewN _ q) ∧ UsAt own' c (World.drewN _ q) p rp tp s ∧ MemAt ramK own' cm (World.drewN _ q) rp 0 n m ∧ TlbAt own' ct cd (World.drewN _ q) tp room l3 ∧ EntsOk l3 from
          ⟨own3, hS3.drewN q, hU3.step ((Step.refl (fun _ => False) own3 _).drewN q) (fun h => h), hM3.step ((Step.refl (fun _ => False) own3 _).drewN q) (fun h => h), hT3.step ((Step.refl (fun _ => False) own3 _).drewN q) (fun h => h) (fun h => h), hl3⟩))
        clear hS3 hU3 hM3 hT3 hl3 hR3 hHas hB2 HC H2 HSM HLK HMS HND HR d0 d1
        go_wp2_with fail
        ((with_reducible refine HH.out.mono ?_); rintro e wz ⟨rfl, q, rfl⟩)
        clear HH
        cases B2
        · go_wp2
          go_ret2
          have h := H3.out q
          simp only [Bool.false_eq_true, if_false] at h
          rw [h.1]
          exact ⟨rfl, h.2⟩
        · go_wp2
          go_ret2
          have h := H3.out q
          simp only [if_true] at h
          rw [h.1]
          exact ⟨rfl, h.2⟩
end
end Go.Proofs.YtonhlgfgbdiapaaGreat
