import Derived.Test.YtibhialnaibkjaaPciR2
namespace Go.Proofs.Ytibhialnaibkjaa
set_option linter.unusedVariables false
open Go.RowKit
set_option maxRecDepth 100000

theorem cmd_half (s : Sl) (h : s.wf) : (s.cmd / 2 % 2 == 1) = (s.cmd == 2 || s.cmd == 6) := by
  obtain ⟨_, h, _⟩ := h
  obtain ⟨kd, cmd, base, line⟩ := s
  simp only at h ⊢
  rcases h with rfl | rfl | rfl | rfl <;> decide
theorem ref_Bar {w : World} {p q : Nat} {L : List Sl} (h : RefAt w p q L) (slot : Int) :
    Calls Try.prog 22 #[.pointer (some ⟨p, 0, none⟩), .int .i64 slot] w fun e w' => e = .returned (.tuple #[.int .u64 (barL L slot).1, .bool (barL L slot).2]) ∧ Upd (fun _ => False) w w' := by
  rcases hat : at_ L slot with _ | s
  · have hn := at_none hat
    obtain ⟨ad, cap, hb⟩ := h.head
    have HF := Lib.hid (show barL L slot = (0, false) from by simp [barL, hat])
    clear h hat
    simp only [decide_eq_false_iff_not, not_and, Int.not_lt] at hn
    by_cases h0 : slot < 0
    · clear hn
      go_enter Try.func22, Try.ntmps22
      go_wp2
      go_ret2
      rw [HF.out]; exact ⟨rfl, Upd.refl _ _⟩
    · have h1 : (L.length : Int) ≤ slot := hn (by omega)
      clear hn
      go_enter Try.func22, Try.ntmps22
      go_wp2
      go_ret2
      rw [HF.out]; exact ⟨rfl, Upd.refl _ _⟩
  · obtain ⟨hs0, hs1, hsi⟩ := at_some hat
    obtain ⟨hwf, cap, cur, hb, _, hq, hD⟩ := h.slot hsi
    have HF := Lib.hid (show barL L slot = (s.base, (s.cmd / 2 % 2 == 1) && s.base != 0) from by rw [barL, hat, cmd_half s hwf]; rfl)
    obtain ⟨k, rfl⟩ := Int.eq_ofNat_of_zero_le hs0
    simp only [Int.toNat_natCast] at hD
    have c0 : w.cell? ⟨q, k * 4, none⟩ = some (.int .i64 s.kind) := by rw [hq.cell]; exact hD.1
    have c1 : w.cell? ⟨q, k * 4 + 1, none⟩ = some (.int .u64 s.cmd) := by rw [hq.cell]; exact hD.2.1
    have c2 : w.cell? ⟨q, k * 4 + 2, none⟩ = some (.int .u64 s.base) := by rw [hq.cell]; exact hD.2.2.1
    have c3 : w.cell? ⟨q, k * 4 + 3, none⟩ = some (.int .u64 s.line) := by rw [hq.cell]; exact hD.2.2.2
    obtain ⟨⟨h1, h2⟩, ⟨h3, h4⟩, ⟨h5, h6⟩, h7, h8⟩ := Sl.bds hwf
    clear h hat hq hD hsi hwf
    generalize s.kind = kd at *
    generalize s.cmd = cmd at *
    generalize s.base = bs at *
    generalize s.line = ln at *
    by_cases hon : cmd / 2 % 2 = 1
    · go_enter Try.func22, Try.ntmps22
      go_wp2
      go_quiet (fail)
      go_wp2
      go_ret2
      rw [HF.out]
      exact ⟨by simp [hon], ((Upd.refl _ _).alloc _).drewN _⟩
    · have hon' : (cmd / 2 % 2 == 1) = false := by simpa using hon
      clear hon
      go_enter Try.func22, Try.ntmps22
      go_wp2
      go_quiet (fail)
      go_wp2
      go_ret2
      rw [HF.out]
      exact ⟨by simp [hon'], ((Upd.refl _ _).alloc _).drewN _⟩

theorem ref_Read {w : World} {p q : Nat} {L : List Sl} (h : RefAt w p q L) (slot off size : Int) (h0 : 0 ≤ off) (h1 : off < 18446744073709551616) :
    Calls Try.prog 18 #[.pointer (some ⟨p, 0, none⟩), .int .i64 slot, .int .u64 off, .int .i64 size] w fun e w' =>
      e = .returned (.tuple #[.int .u64 (rdS L slot off size).1, .bool (rdS L slot off size).2]) ∧ Upd (fun _ => False) w w' := by
  by_cases hf : fitsZ off size = true
  · have hr := fitsZ_room h0 hf
    have ho : off < 256 := (fitsZ_iff.1 hf).2.1
    rcases hat : at_ L slot with _ | s
    · have hn := at_none hat
      obtain ⟨ad, cap, hb⟩ := h.head
      have HF := Lib.hid (show rdS L slot off size = (2 ^ (8 * size).toNat - 1, true) from by simp [rdS, hf, hat])
      have HS := (fitsZ_iff.1 hf).1
      clear h hat
      simp only [decide_eq_false_iff_not, not_and, Int.not_lt] at hn
      by_cases hs0 : slot < 0
      · clear hn
        go_enter Try.func18, Try.ntmps18
        go_wp2_with fail
        refine (ref_right _ _ h0 h1 _).mono ?_; rintro e w' ⟨rfl, rfl⟩; rw [hf]
        rcases HS with rfl | rfl | rfl
        all_goals go_wp2
        all_goals go_ret2
        all_goals (rw [HF.out]; exact ⟨rfl, Upd.refl _ _⟩)
      · have hs1 : (L.length : Int) ≤ slot := hn (by omega)
        clear hn
        go_enter Try.func18, Try.ntmps18
        go_wp2_with fail
        refine (ref_right _ _ h0 h1 _).mono ?_; rintro e w' ⟨rfl, rfl⟩; rw [hf]
        rcases HS with rfl | rfl | rfl
        all_goals go_wp2
        all_goals go_ret2
        all_goals (rw [HF.out]; exact ⟨rfl, Upd.refl _ _⟩)
    · obtain ⟨hs0, hs1, hsi⟩ := at_some hat
      obtain ⟨hwf, cap, cur, hb, _, hq, hD⟩ := h.slot hsi
      have HF := Lib.hid (show rdS L slot off size = (num (devF s) off.toNat size.toNat, true) from by simp [rdS, hf, hat])
      obtain ⟨k, rfl⟩ := Int.eq_ofNat_of_zero_le hs0
      simp only [Int.toNat_natCast] at hD
      have c0 : w.cell? ⟨q, k * 4, none⟩ = some (.int .i64 s.kind) := by rw [hq.cell]; exact hD.1
      have c1 : w.cell? ⟨q, k * 4 + 1, none⟩ = some (.int .u64 s.cmd) := by rw [hq.cell]; exact hD.2.1
      have c2 : w.cell? ⟨q, k * 4 + 2, none⟩ = some (.int .u64 s.base) := by rw [hq.cell]; exact hD.2.2.1
      have c3 : w.cell? ⟨q, k * 4 + 3, none⟩ = some (.int .u64 s.line) := by rw [hq.cell]; exact hD.2.2.2
      have HB := Lib.hid (ref_bytes s hwf w)
      clear h hat hq hD hsi
      go_enter Try.func18, Try.ntmps18
      go_wp2_with fail
      refine (ref_right _ _ h0 h1 _).mono ?_; rintro e w' ⟨rfl, rfl⟩; rw [hf]
      go_wp2_with fail
      refine HB.out.mono ?_; rintro e w1 ⟨b, rfl, hby, _, hU⟩
      go_wp2_with fail
      refine (ref_get hby (devF_bd s) off size hr.1 hr.2.1 h0 hr.2.2).mono ?_; rintro e w' ⟨rfl, rfl⟩
      have HU := Lib.hid hU
      clear hU hby
      go_wp2
      go_ret2
      rw [HF.out]; exact ⟨rfl, HU.out⟩
  · have hf' : fitsZ off size = false := by simpa using hf
    have HF := Lib.hid (show rdS L slot off size = (0, false) from by simp [rdS, hf])
    clear h hf
    go_enter Try.func18, Try.ntmps18
    go_wp2_with fail
    refine (ref_right _ _ h0 h1 _).mono ?_; rintro e w' ⟨rfl, rfl⟩; rw [hf']
    go_wp2
    go_ret2
    rw [HF.out]; exact ⟨rfl, Upd.refl _ _⟩

theorem ref_Find {w : World} {p q : Nat} {L : List Sl} (h : RefAt w p q L) (addr : Int) (h0 : 0 ≤ addr) (h1 : addr < 18446744073709551616) (hL : L.length ≤ 8) :
    Calls Try.prog 20 #[.pointer (some ⟨p, 0, none⟩), .int .u64 addr] w fun e w' => e = .returned (.tuple #[.int .i64 (findL L addr).1, .int .u64 (findL L addr).2.1, .bool (findL L addr).2.2]) ∧ Upd (fun _ => False) w w' := by
  have HB := Lib.hid h
  clear h
  go_enter Try.func20, Try.ntmps20
  go_wp2
  go_loopw [7] (fun i wr => ∃ k : Nat, k ≤ L.length ∧ i = .int .i64 (k : Int) ∧ Hid ((∀ j s, j < k → L[j]? = some s → hit addr s = false) ∧ RefAt wr p q L ∧ Upd (fun _ => False) w wr)) (fun i _ => L.length - (intOf i).toNat)
  case atStart => exact ⟨0, by omega, rfl, fun j s hj => by omega, HB.out, Upd.refl _ _⟩
  case round =>
    obtain ⟨k, hk, rfl, HV⟩ := hrel
    obtain ⟨ad, cap, hb⟩ := HV.out.2.1.head
    by_cases hlt : k < L.length
    · obtain ⟨s, hs⟩ : ∃ s, L[k]? = some s := ⟨L[k], List.getElem?_eq_getElem hlt⟩
      have HS := Lib.hid hs
      have hwf := (HV.out.2.1.slot hs).1.2.2.1
      have hbar : barL L k = barS s := by rw [barL, at_lt hs]
      have HBar := Lib.hid hbar
      have hcall := ref_Bar HV.out.2.1 (k : Int)
      rw [hbar] at hcall
      have HC := Lib.hid hcall
      clear hs hcall hbar
      obtain ⟨hw0, hw1, _⟩ := hwf
      have e1 : (barS s).1 = s.base := rfl
      rw [e1] at HC
      clear e1
      have step : ∀ wx, Upd (fun _ => False) wr wx → hit addr s = false → Hid ((∀ j s, j < k + 1 → L[j]? = some s → hit addr s = false) ∧ RefAt wx p q L ∧ Upd (fun _ => False) w wx) :=
        fun wx hu hno => ⟨find_next HV.out.1 HS.out hno, HV.out.2.1.upd hu (fun h => h) (fun h => h), HV.out.2.2.trans hu⟩
      have HStep := Lib.hid step
      clear step
      by_cases hon : (barS s).2 = true
      · by_cases hge : s.base ≤ addr
        · by_cases hin : addr - s.base < 4096
          · go_wp2_with fail
            refine (HC.out).mono ?_; rintro e w2 ⟨rfl, hu⟩; rw [hon]
            have HU := Lib.hid (HV.out.2.2.trans hu)
            clear hu
            go_wp2
            go_ret3
            refine ⟨?_, HU.out⟩
            rw [find_at HV.out.1 HS.out (by simp [hit, hon, hge, hin]), HBar.out]; rfl
          · have hno : hit addr s = false := by simp [hit, hin]
            go_wp2_with fail
            refine (HC.out).mono ?_; rintro e w2 ⟨rfl, hu⟩; rw [hon]
            have HX := HStep.out w2 hu hno
            clear hu hno
            go_wp2
            exact ⟨⟨k + 1, by omega, by go_num, HX⟩, by simp [intOf]; omega⟩
        · have hno : hit addr s = false := by simp [hit, hge]
          go_wp2_with fail
          refine (HC.out).mono ?_; rintro e w2 ⟨rfl, hu⟩; rw [hon]
          have HX := HStep.out w2 hu hno
          clear hu hno
          go_wp2
          exact ⟨⟨k + 1, by omega, by go_num, HX⟩, by simp [intOf]; omega⟩
      · have hon' : (barS s).2 = false := by simpa using hon
        have hno : hit addr s = false := by simp [hit, hon']
        clear hon
        go_wp2_with fail
        refine (HC.out).mono ?_; rintro e w2 ⟨rfl, hu⟩; rw [hon']
        have HX := HStep.out w2 hu hno
        clear hu hno
        go_wp2
        exact ⟨⟨k + 1, by omega, by go_num, HX⟩, by simp [intOf]; omega⟩
    · obtain rfl : k = L.length := by omega
      have HX := Lib.hid (find_none HV.out.1)
      go_wp2
      go_ret3
      rw [HX.out]
      exact ⟨rfl, HV.out.2.2⟩
end Go.Proofs.Ytibhialnaibkjaa
