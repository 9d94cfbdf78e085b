import Derived.Test.YtpodeclkgcgpgaaPref1
/- The document's pool: Owner, Count, Take, Bits. -/
namespace Go.Proofs.Ytpodeclkgcgpgaa
set_option linter.unusedVariables false
open Go.RowKit
set_option maxRecDepth 100000

section
variable {own own' : Nat → Nat} {c pp rp qo qw n ex : Nat} {res harts : Int} {ow bt : List Int} {vs : List Value} {ls : List (List Int)} {w w' : World}
theorem PrIn.stepO (h : PrIn own c w pp rp qo qw n res harts ow vs ls ex) (k : Nat) (v : Value) : Step (· = c) own w own (w.setCell ⟨qo, k, none⟩ v) := ⟨(Upd.refl _ _).setCell (.inl h.oo) _, fun _ _ => rfl⟩
theorem PrIn.stepW (h : PrIn own c w pp rp qo qw n res harts ow vs ls ex) (k : Nat) (v : Value) : Step (· = c) own w own (w.setCell ⟨qw, k, none⟩ v) := ⟨(Upd.refl _ _).setCell (.inl h.oq) _, fun _ _ => rfl⟩
theorem PrIn.setO (h : PrIn own c w pp rp qo qw n res harts ow vs ls ex) (k : Nat) (v : Int) : PrIn own c (w.setCell ⟨qo, k, none⟩ (.int .i64 v)) pp rp qo qw n res harts (ow.set k v) vs ls ex := by
  have hc := h.hc
  refine ⟨h.bp.far (h.bp.ne_ h.bo (by decide)) _, h.op, ?_, h.oo, h.bw.far (h.bw.ne_ h.bo (by decide)) _, h.oq, by simpa using h.lo, h.lv, h.ll, h.hn, h.hc, fun j u l hx hu hl => ?_⟩
  · have e : ((ow.set k v).map (Value.int .i64)).toArray = (ow.map (.int .i64)).toArray.setIfInBounds k (.int .i64 v) := by simp [List.map_set]
    rw [e]; exact h.bo.set_ _ _
  · exact ⟨(h.row j u l hx hu hl).1.step (h.stepO k _) (by omega), (h.row j u l hx hu hl).2⟩
theorem PrIn.setW (h : PrIn own c w pp rp qo qw n res harts ow vs ls ex) (k : Nat) (hex : ex = n ∨ ex = k) (v : Value) (l : List Int) (hr : Row own (100 + k) w v l) (hl9 : l.length ≤ 9) : PrIn own c (w.setCell ⟨qw, k, none⟩ v) pp rp qo qw n res harts ow (vs.set k v) (ls.set k l) n := by
  have hc := h.hc
  refine ⟨h.bp.far (h.bp.ne_ h.bw (by decide)) _, h.op, h.bo.far (h.bo.ne_ h.bw (by decide)) _, h.oo, ?_, h.oq, h.lo, by simpa using h.lv, by simpa using h.ll, h.hn, h.hc, fun j u l' hx hu hl => ?_⟩
  · have e : (vs.set k v).toArray = vs.toArray.setIfInBounds k v := by simp
    rw [e]; exact h.bw.set_ _ _
  · by_cases e : j = k
    · subst e
      have h1 := (List.getElem?_eq_some_iff.1 hu).1
      have h2 := (List.getElem?_eq_some_iff.1 hl).1
      rw [List.length_set] at h1 h2
      rw [List.getElem?_set_self h1] at hu
      rw [List.getElem?_set_self h2] at hl
      cases hu; cases hl
      exact ⟨hr.step (h.stepW j v) (by omega), hl9⟩
    · rw [List.getElem?_set_ne (Ne.symm e)] at hu hl
      have hxx : j ≠ ex := by rcases hex with h | h <;> omega
      exact ⟨(h.row j u l' hxx hu hl).1.step (h.stepW k v) (by omega), (h.row j u l' hxx hu hl).2⟩
theorem PrIn.but (h : PrIn own c w pp rp qo qw n res harts ow vs ls n) (k : Nat) (hk : k < n) : PrIn own c w pp rp qo qw n res harts ow vs ls k :=
  ⟨h.bp, h.op, h.bo, h.oo, h.bw, h.oq, h.lo, h.lv, h.ll, h.hn, h.hc, fun j u l hx hu hl => h.row j u l (by have := (List.getElem?_eq_some_iff.1 hu).1; rw [h.lv] at this; omega) hu hl⟩
theorem RelA.take {k : Nat} {o : Int} (h : RelA ow bt ls) (hk : ow[k]? = some 0) (ho : o ≠ -2) : RelA (ow.set k o) bt ls := by
  have hkl := (List.getElem?_eq_some_iff.1 hk).1
  refine ⟨by simpa using h.lb, by simpa using h.ll, fun j l b h1 h2 h3 => ?_, fun j o' b h1 h2 h3 => ?_⟩
  · by_cases e : j = k
    · subst e; rw [List.getElem?_set_self hkl] at h1; cases h1; exact absurd rfl ho
    · rw [List.getElem?_set_ne (Ne.symm e)] at h1; exact h.on j l b h1 h2 h3
  · by_cases e : j = k
    · subst e; exact h.off j 0 b hk (by decide) h3
    · rw [List.getElem?_set_ne (Ne.symm e)] at h1; exact h.off j o' b h1 h2 h3
theorem RelA.set_ {k : Nat} {o b : Int} {l : List Int} (h : RelA ow bt ls) (h1 : o = -2 → RelB l b) (h2 : o ≠ -2 → b = 0) : RelA (ow.set k o) (bt.set k b) (ls.set k l) := by
  refine ⟨by simpa using h.lb, by simpa using h.ll, fun j l' b' g1 g2 g3 => ?_, fun j o' b' g1 g2 g3 => ?_⟩
  · by_cases e : j = k
    · subst e
      have e1 := (List.getElem?_eq_some_iff.1 g1).1
      have e2 := (List.getElem?_eq_some_iff.1 g2).1
      have e3 := (List.getElem?_eq_some_iff.1 g3).1
      rw [List.length_set] at e1 e2 e3
      rw [List.getElem?_set_self e1] at g1
      rw [List.getElem?_set_self e2] at g2
      rw [List.getElem?_set_self e3] at g3
      cases g2; cases g3
      exact h1 (by simpa using g1)
    · rw [List.getElem?_set_ne (Ne.symm e)] at g1 g2 g3; exact h.on j l' b' g1 g2 g3
  · by_cases e : j = k
    · subst e
      have e1 := (List.getElem?_eq_some_iff.1 g1).1
      have e3 := (List.getElem?_eq_some_iff.1 g3).1
      rw [List.length_set] at e1 e3
      rw [List.getElem?_set_self e1] at g1
      rw [List.getElem?_set_self e3] at g3
      cases g1; cases g3
      exact h2 g2
    · rw [List.getElem?_set_ne (Ne.symm e)] at g1 g3; exact h.off j o' b' g1 g2 g3
theorem pr_Owner (h : PrAt own c w pp rp n res harts ow bt) (f : Int) :
    Calls Try.prog 35 #[.pointer (some ⟨pp, 0, none⟩), .int .i64 f] w fun e w' => e = .returned (.int .i64 (ownerP ow f)) ∧ w = w' := by
  obtain ⟨qo, qw, vs, ls, h, _⟩ := h
  have h3 := h.c3
  have hlo := h.lo
  have hn := h.hn
  by_cases hf : thereP n f = true
  · obtain ⟨f0, f1⟩ := thereP_iff.1 hf
    obtain ⟨k, rfl⟩ := Int.eq_ofNat_of_zero_le f0
    have hc := h.cellO k
    obtain ⟨v, hv⟩ : ∃ v, ow[k]? = some v := ⟨_, List.getElem?_eq_getElem (by omega)⟩
    rw [hv, Option.map_some] at hc
    have hr : ownerP ow (k : Int) = v := by simp [ownerP, hlo, hf, hv]
    rw [hr]
    clear hv hr h hf
    go_enter Try.func35, Try.ntmps35
    go_wp2
    go_ret
    exact ⟨rfl, rfl⟩
  · have hf' : ¬ (0 ≤ f ∧ f < n) := fun h => hf (thereP_iff.2 h)
    have hr : ownerP ow f = -1 := by simp [ownerP, hlo, hf]
    rw [hr]
    have hcs : f < 0 ∨ (¬ f < 0 ∧ (n : Int) ≤ f) := by omega
    clear h hf hr hf'
    rcases hcs with h1 | ⟨h1, h2⟩
    all_goals
      go_enter Try.func35, Try.ntmps35
      go_wp2
      go_ret
      exact ⟨rfl, rfl⟩
theorem pr_Count (h : PrAt own c w pp rp n res harts ow bt) (o : Int) :
    Calls Try.prog 37 #[.pointer (some ⟨pp, 0, none⟩), .int .i64 o] w fun e w' => e = .returned (.int .i64 (countP ow o : Int)) ∧ w = w' := by
  obtain ⟨qo, qw, vs, ls, h, _⟩ := h
  have h3 := h.c3
  have hlo := h.lo
  have hn := h.hn
  have HC := Lib.hid h.cellO
  clear h
  go_enter Try.func37, Try.ntmps37
  go_wp2
  go_loop [5, 6] (fun s i => ∃ k : Nat, k ≤ n ∧ i = .int .i64 (k : Int) ∧ s = .int .i64 (countP (ow.take k) o : Int)) (fun _ i => n - (intOf i).toNat)
  case atStart => exact ⟨0, by omega, rfl, by simp [countP]⟩
  case round =>
    obtain ⟨k, hk, rfl, rfl⟩ := hrel
    by_cases hlt : k < n
    · obtain ⟨v, hv⟩ : ∃ v, ow[k]? = some v := ⟨_, List.getElem?_eq_getElem (by omega)⟩
      have hc := HC.out k
      rw [hv, Option.map_some] at hc
      have HT := Lib.hid (countP_take ow o hv)
      have hle : countP (ow.take k) o ≤ 1024 := Nat.le_trans (List.length_filter_le ..) (by simp; omega)
      clear hv
      generalize countP (ow.take k) o = cn at *
      by_cases he : v = o
      · subst he
        go_wp2
        go_round
        case rel => exact ⟨k + 1, by omega, by go_num, by rw [HT.out, if_pos rfl]; rfl⟩
        case measure => simp [intOf]; omega
      · go_wp2
        go_round
        case rel => exact ⟨k + 1, by omega, by go_num, by rw [HT.out, if_neg he]; rfl⟩
        case measure => simp [intOf]; omega
    · obtain rfl : k = n := by omega
      rw [List.take_of_length_le (by omega)]
      go_wp2
      go_ret
      exact ⟨rfl, rfl⟩
theorem pr_Take (h : PrAt own c w pp rp n res harts ow bt) (o : Int) :
    Calls Try.prog 31 #[.pointer (some ⟨pp, 0, none⟩), .int .i64 o] w fun e w' => e = .returned (.tuple #[.int .i64 (takeP ow o).1, .int .i64 (takeP ow o).2.1]) ∧ Step (· = c) own w own w' ∧ PrAt own c w' pp rp n res harts (takeP ow o).2.2 bt := by
  obtain ⟨qo, qw, vs, ls, h, hA⟩ := h
  have h3 := h.c3
  have hlo := h.lo
  have hn := h.hn
  have HC := Lib.hid h.cellO
  have HZ := Lib.hid (fun k => h.bo.frozen k)
  have HP := Lib.hid (And.intro h hA)
  clear h hA
  by_cases ho : okO o = true
  · have ho' := okO_iff.1 ho
    have HT := Lib.hid (show takeP ow o = match freeP ow with | some k => ((k : Int), (0 : Int), ow.set k o) | none => (0, 10, ow) from by unfold takeP; rw [if_pos ho]; cases freeP ow <;> rfl)
    clear ho
    have ho2 : o = -1 ∨ ((o != -1) = true ∧ 1 ≤ o ∧ o ≤ 8) := by
      rcases ho' with h | h
      · exact .inl h
      · exact .inr ⟨by simp; omega, h⟩
    have hwf : o ≠ -2 := by omega
    have HW := Lib.hid hwf
    clear ho' hwf
    rcases ho2 with rfl | ⟨h1, h2, h3o⟩
    all_goals
      go_enter Try.func31, Try.ntmps31
      go_wp2
      go_loop [6] (fun i => ∃ k : Nat, k ≤ n ∧ i = .int .i64 (k : Int) ∧ Hid (∀ j, j < k → ow[j]? ≠ some 0)) (fun i => n - (intOf i).toNat)
      case atStart => exact ⟨0, by omega, rfl, fun j hj => by omega⟩
      case round =>
        obtain ⟨k, hk, rfl, HN⟩ := hrel
        by_cases hlt : k < n
        · obtain ⟨v, hv⟩ : ∃ v, ow[k]? = some v := ⟨_, List.getElem?_eq_getElem (by omega)⟩
          have hc := HC.out k
          have hz := HZ.out k
          rw [hv, Option.map_some] at hc
          have HV := Lib.hid hv
          clear hv
          by_cases he : v = 0
          · subst he
            go_wp2
            go_ret2
            have hf : freeP ow = some k := freeP_some HV.out HN.out
            rw [HT.out, hf]
            exact ⟨rfl, HP.out.1.stepO k _, _, _, _, _, HP.out.1.setO k _, HP.out.2.take HV.out HW.out⟩
          · go_wp2
            go_round
            case rel =>
              refine ⟨k + 1, by omega, by go_num, fun j hj => ?_⟩
              by_cases e : j = k
              · subst e; rw [HV.out]; simpa using he
              · exact HN.out j (by omega)
            case measure => simp [intOf]; omega
        · obtain rfl : k = n := by omega
          have hf : freeP ow = none := freeP_none (fun i => by
            rcases Nat.lt_or_ge i k with h | h
            · exact HN.out i h
            · rw [List.getElem?_eq_none (by omega)]; simp)
          have HF := Lib.hid hf
          go_wp2
          go_ret2
          rw [HT.out, HF.out]
          exact ⟨rfl, Step.refl _ _ _, _, _, _, _, HP.out⟩
  · have ho : okO o = false := by simpa using ho
    have ho' : ¬ (o = -1 ∨ (1 ≤ o ∧ o ≤ 8)) := fun h => by rw [okO_iff.2 h] at ho; cases ho
    have HT := Lib.hid (show takeP ow o = (0, 1, ow) from by simp [takeP, ho])
    have hne : (o != -1) = true := by simp; omega
    have hcs : o < 1 ∨ (1 ≤ o ∧ 8 < o) := by omega
    clear ho ho'
    rcases hcs with hlo1 | ⟨hhi1, hhi⟩
    all_goals
      go_enter Try.func31, Try.ntmps31
      go_wp2
      go_ret2
      rw [HT.out]
      exact ⟨rfl, Step.refl _ _ _, _, _, _, _, HP.out⟩
theorem pr_Bits (h : PrAt own c w pp rp n res harts ow bt) (f : Int) :
    Calls Try.prog 36 #[.pointer (some ⟨pp, 0, none⟩), .int .i64 f] w fun e w' => e = .returned (.int .u64 (waitsP bt f)) ∧ w = w' := by
  have HO := Lib.hid (pr_Owner h f)
  obtain ⟨qo, qw, vs, ls, h, hA⟩ := h
  have h4 := h.c4
  have hn := h.hn
  by_cases ho : ownerP ow f = -2
  · have hf : thereP ow.length f = true := by
      rcases hh : thereP ow.length f with _ | _
      · simp [ownerP, hh] at ho
      · rfl
    obtain ⟨f0, f1⟩ := thereP_iff.1 hf
    obtain ⟨k, rfl⟩ := Int.eq_ofNat_of_zero_le f0
    have hkl : k < ow.length := by omega
    obtain ⟨v, hv⟩ : ∃ v, vs[k]? = some v := ⟨_, List.getElem?_eq_getElem (by rw [h.lv, ← h.lo]; omega)⟩
    obtain ⟨l, hl⟩ : ∃ l, ls[k]? = some l := ⟨_, List.getElem?_eq_getElem (by rw [h.ll, ← h.lo]; omega)⟩
    obtain ⟨b, hb⟩ : ∃ b, bt[k]? = some b := ⟨_, List.getElem?_eq_getElem (by rw [hA.lb]; omega)⟩
    have hok : ow[k]? = some (-2) := by
      rw [List.getElem?_eq_getElem hkl]
      simpa [ownerP, hf, List.getElem?_eq_getElem hkl] using ho
    have hB := hA.on k l b hok hl hb
    have hw : waitsP bt (k : Int) = (orB l : Int) := by
      unfold waitsP; rw [if_pos (thereP_iff.2 (by rw [hA.lb]; omega))]
      simp [hb, hB.or]
    rw [hw]
    obtain ⟨hrow, hl9⟩ := h.row k v l (by rw [h.lo] at hkl; omega) hv hl
    obtain ⟨A, cap, rfl, hrd⟩ := hrow.form
    have hq := (h.cellW k).trans hv
    have hkn : k < n := by rw [← h.lo]; omega
    have HR := Lib.hid (And.intro hrd hB.lt)
    rw [ho] at HO
    clear h hA hrow hB hw hok hb hl hv hf f1 f0 ho hrd
    go_enter Try.func36, Try.ntmps36
    go_wp2_with fail
    refine HO.out.mono ?_; rintro e wz ⟨rfl, rfl⟩
    go_wp2
    go_loop [5, 6] (fun x i => ∃ j : Nat, j ≤ l.length ∧ i = .int .i64 (j : Int) ∧ x = .int .u64 (orB (l.take j) : Int)) (fun _ i => l.length - (intOf i).toNat)
    case atStart => exact ⟨0, by omega, rfl, by simp [orB]⟩
    case round =>
      obtain ⟨j, hj, rfl, rfl⟩ := hrel
      by_cases hlt : j < l.length
      · have hlt' : (j : Int) < (l.length : Int) := by omega
        obtain ⟨x, hx⟩ : ∃ x, l[j]? = some x := ⟨_, List.getElem?_eq_getElem hlt⟩
        obtain ⟨g, rfl, _, _, hcs⟩ := HR.out.1 (fun e => by rw [e] at hlt; simp at hlt)
        have hc := hcs j x hx
        obtain ⟨hx0, hx1⟩ := HR.out.2 x (List.mem_of_getElem? hx)
        obtain ⟨y, rfl⟩ := Int.eq_ofNat_of_zero_le hx0
        have HT := Lib.hid (show orB (l.take (j + 1)) = orB (l.take j) ||| 2 ^ y from by
          obtain ⟨h1, h2⟩ := List.getElem?_eq_some_iff.1 hx
          rw [List.take_succ_eq_append_getElem h1, orB_snoc, h2]; simp)
        have hob := orB_lt (l := l.take j) (fun x hx => HR.out.2 x (List.mem_of_mem_take hx))
        have hy : (2 : Nat) ^ y < 18446744073709551616 := by
          have := Nat.pow_lt_pow_right (a := 2) (by decide) (show y < 64 by omega)
          simpa using this
        have hwr : IntKind.u64.wrap ((2 : Int) ^ y) = ((2 ^ y : Nat) : Int) := by
          rw [show (2 : Int) ^ y = ((2 ^ y : Nat) : Int) from by simp]
          generalize (2 : Nat) ^ y = z at hy ⊢
          exact IntWalk.u64_in _ (by omega)
        have hbo := u64_or_nat (orB (l.take j)) (2 ^ y) hob hy
        have HBO := Lib.hid (And.intro hwr hbo)
        clear hcs hx hwr hbo
        generalize orB (l.take j) = ob at *
        go_wp2
        go_round
        case rel => exact ⟨j + 1, by omega, by go_num, by rw [HT.out]; (try rw [HBO.out.1]); first | rw [HBO.out.2] | rfl⟩
        case measure => simp [intOf]; omega
      · obtain rfl : j = l.length := by omega
        rw [List.take_of_length_le (by omega)]
        go_wp2
        go_ret
        exact ⟨rfl, rfl⟩
  · have hw : waitsP bt f = 0 := by
      unfold waitsP
      rcases hh : thereP bt.length f with _ | _
      · rfl
      · obtain ⟨f0, f1⟩ := thereP_iff.1 hh
        obtain ⟨k, rfl⟩ := Int.eq_ofNat_of_zero_le f0
        have hkl : k < ow.length := by rw [← hA.lb]; omega
        obtain ⟨b, hb⟩ : ∃ b, bt[k]? = some b := ⟨_, List.getElem?_eq_getElem (by omega)⟩
        have hf : thereP ow.length (k : Int) = true := thereP_iff.2 (by omega)
        have := hA.off k ow[k] b (List.getElem?_eq_getElem hkl) (fun e => ho (by simp [ownerP, hf, List.getElem?_eq_getElem hkl, e])) hb
        simp [hb, this]
    rw [hw]
    have hne : (ownerP ow f != -2) = true := by simpa using ho
    clear h hA hw ho
    generalize ownerP ow f = of_ at *
    go_enter Try.func36, Try.ntmps36
    go_wp2_with fail
    refine HO.out.mono ?_; rintro e wz ⟨rfl, rfl⟩
    go_wp2
    go_ret
    exact ⟨rfl, rfl⟩
end
end Go.Proofs.Ytpodeclkgcgpgaa
