import Derived.Test.YtpodeclkgcgpgaaPref4
/- The document's pool: Ack. -/
namespace Go.Proofs.Ytpodeclkgcgpgaa
set_option linter.unusedVariables false
open Go.RowKit
set_option maxRecDepth 100000

theorem filter_take_succ {l : List Int} {j : Nat} {x : Int} (h : l[j]? = some x) (p : Int → Bool) : (l.take (j + 1)).filter p = (l.take j).filter p ++ (if p x then [x] else []) := by
  obtain ⟨h1, h2⟩ := List.getElem?_eq_some_iff.1 h
  rw [List.take_succ_eq_append_getElem h1, List.filter_append, h2]
  congr 1
  simp only [List.filter_cons, List.filter_nil]
theorem ownsRow_base0 {w : World} {base : Nat} {e : TypeId} {size : Nat} {v : Value} {n : Nat} {xs : List Value} (h : w.ownsRow base e size v n xs) : w.ownsRow 0 e size v n xs := by
  obtain ⟨h1, h2⟩ := h
  rcases h2 with h2 | ⟨g, cap, cur, hv, hb, hr⟩
  · exact ⟨h1, Or.inl h2⟩
  · exact ⟨h1, Or.inr ⟨g, cap, cur, hv, Nat.zero_le _, hr⟩⟩
theorem ownsRow_none_step {w w' : World} {base : Nat} {v : Value} {l : List Int} (h : w.ownsRow base 3 1 v l.length (l.map (.int .i64))) (hbase : ∀ g, v.ownBlock = some g → w'.heap[g]? = w.heap[g]?) : w'.ownsRow base 3 1 v l.length (l.map (.int .i64)) := by
  obtain ⟨h1, h2⟩ := h
  rcases h2 with h2 | ⟨g, cap, cur, rfl, hb, hg, hr⟩
  · exact ⟨h1, Or.inl h2⟩
  · exact ⟨h1, Or.inr ⟨g, cap, cur, rfl, hb, (hbase g rfl).trans hg, hr⟩⟩
section
variable {own own' : Nat → Nat} {c cm pp rp qo qw n : Nat} {res : Int} {hn : Nat} {w w' : World} {s : PSt}
set_option maxHeartbeats 2000000 in
theorem pr_acked (who : Nat) (hw : who = 63 ∨ (who < hn ∧ hn ≤ 8)) (hcm : cm ≠ c ∧ cm < 100) (hs : s.cnt = 0) (h : PrAt own c w pp rp n res hn s.ow s.bt) (hM : MemAt refK own cm w rp 0 n s.m) :
    Calls Try.prog 33 #[.pointer (some ⟨pp, 0, none⟩), .int .i64 (who : Int)] w fun e w' => e = .returned (.int .i64 ((ackN (notB ((2 ^ who : Nat) : Int)) s n).cnt : Int)) ∧
      ∃ own', Step (fun x => x = c ∨ x = cm ∨ 100 ≤ x) own w own' w' ∧ PrAt own' c w' pp rp n res hn (ackN (notB ((2 ^ who : Nat) : Int)) s n).ow (ackN (notB ((2 ^ who : Nat) : Int)) s n).bt ∧ MemAt refK own' cm w' rp 0 n (ackN (notB ((2 ^ who : Nat) : Int)) s n).m := by
  obtain ⟨qo, qw, vs, ls, hP, hA⟩ := h
  have hn1 := hP.hn
  have hc100 := hP.hc
  have h2 := hP.c2
  have hwho : who < 64 := by omega
  obtain ⟨ie, hie, hiz, his, hib⟩ := info_parts info_int
  have H0 := Lib.hid (And.intro hP (And.intro hA hM))
  have HS := Lib.hid hs
  clear hP hA hM hs
  obtain ⟨nb, hnb⟩ : ∃ nb, notB ((2 ^ who : Nat) : Int) = nb := ⟨_, rfl⟩
  rw [hnb]
  have HNB := Lib.hid hnb
  clear hnb
  have hcs : who = 63 ∨ (((who : Int) != 63) = true ∧ ¬ (who : Int) < 0 ∧ ¬ (hn : Int) ≤ (who : Int)) := by
    rcases hw with h | ⟨h1, h2⟩
    · exact Or.inl h
    · exact Or.inr ⟨by simp; omega, by omega, by omega⟩
  clear hw
  go_enter Try.func33, Try.ntmps33
  rcases hcs with hcs | ⟨hc1, hc2, hc3⟩
  all_goals
    go_wp2
    (try clear hcs)
    go_loopw [5, 6] (fun x i wr => ∃ k : Nat, k ≤ n ∧ i = .int .i64 (k : Int) ∧ x = .int .i64 ((ackN nb s k).cnt : Int) ∧ Hid (∃ own' vs' ls', Step (fun x => x = c ∨ x = cm ∨ 100 ≤ x) own w own' wr ∧ PrIn own' c wr pp rp qo qw n res hn (ackN nb s k).ow vs' ls' n ∧ RelA (ackN nb s k).ow (ackN nb s k).bt ls' ∧ MemAt refK own' cm wr rp 0 n (ackN nb s k).m)) (fun _ i _ => n - (intOf i).toNat)
    case atStart => exact ⟨0, by omega, rfl, by rw [ackN, HS.out]; rfl, own, vs, ls, Step.refl _ _ _, H0.out⟩
    case round =>
      rename World => wo
      obtain ⟨k, hk, rfl, rfl, HR⟩ := hrel
      by_cases hlt : k < n
      · have hlt' : (k : Int) < (n : Int) := by omega
        have HN := Lib.hid (show ackN nb s (k + 1) = ack1 nb (ackN nb s k) k from rfl)
        have hcn := (ackN_len nb s k).2.2
        rw [HS.out] at hcn
        obtain ⟨s1, hs1⟩ : ∃ s1, ackN nb s k = s1 := ⟨_, rfl⟩
        rw [hs1] at HR HN hcn
        rw [hs1]
        clear hs1
        obtain ⟨own1, vs1, ls1, hS, hP, hA, hM⟩ := HR.out
        clear HR
        have h3 := hP.c3
        have hcell := hP.cellO k
        obtain ⟨v, hv⟩ : ∃ v, s1.ow[k]? = some v := ⟨_, List.getElem?_eq_getElem (by rw [hP.lo]; omega)⟩
        rw [hv, Option.map_some] at hcell
        have HV := Lib.hid hv
        by_cases he : v = -2
        · subst he
          obtain ⟨v0, hv0⟩ : ∃ v0, vs1[k]? = some v0 := ⟨_, List.getElem?_eq_getElem (by rw [hP.lv]; omega)⟩
          obtain ⟨l0, hl0⟩ : ∃ l0, ls1[k]? = some l0 := ⟨_, List.getElem?_eq_getElem (by rw [hP.ll]; omega)⟩
          obtain ⟨b, hb⟩ : ∃ b, s1.bt[k]? = some b := ⟨_, List.getElem?_eq_getElem (by rw [hA.lb, hP.lo]; omega)⟩
          obtain ⟨hrow, hl9⟩ := hP.row k v0 l0 (by omega) hv0 hl0
          obtain ⟨A0, cap0, rfl, hrd⟩ := hrow.form
          have hB := (hA.on k l0 b hv hl0 hb).del hwho
          rw [HNB.out] at hB
          have hack : ack1 nb s1 k = if bits .and .u64 b nb = 0 then ⟨s1.ow.set k 0, s1.bt.set k 0, clrF s1.m k, s1.cnt + 1⟩ else ⟨s1.ow, s1.bt.set k (bits .and .u64 b nb), s1.m, s1.cnt⟩ := by simp [ack1, hv, hb]
          have h4 := hP.c4
          have h0 := hP.c0
          have hq := (hP.cellW k).trans hv0
          have lp := hP.bp.lt
          have lw := hP.bw.lt
          have n2 : pp ≠ qw := hP.bp.ne_ hP.bw (by decide)
          have HB := Lib.hid (And.intro hB hack)
          have HRD := Lib.hid hrd
          have H1 := Lib.hid (And.intro hS (And.intro hP (And.intro hA hM)))
          clear hB hack hrd hrow hS hP hA hM hv hv0 hl0 hb
          go_wp2
          go_loopw [7, 8] (fun lv j wy => ∃ q : Nat, q ≤ l0.length ∧ j = .int .i64 (q : Int) ∧ Hid (Upd (fun _ => False) wo wy ∧ wy.ownsRow wo.heap.size 3 1 lv ((l0.take q).filter (fun x => x != (who : Int))).length (((l0.take q).filter (fun x => x != (who : Int))).map (.int .i64)))) (fun _ j _ => l0.length - (intOf j).toNat)
          case atStart => exact ⟨0, by omega, rfl, Upd.refl _ _, World.ownsRow_nil _ _ _ _⟩
          case round =>
            obtain ⟨q, hq1, rfl, HL⟩ := hrel
            have y4 := (HL.out.1.cell (p := ⟨pp, 4, none⟩) lp (fun h => h)).trans h4
            have yq := (HL.out.1.cell (p := ⟨qw, k, none⟩) lw (fun h => h)).trans hq
            by_cases hlq : q < l0.length
            · have hlq' : (q : Int) < (l0.length : Int) := by omega
              obtain ⟨x, hx⟩ : ∃ x, l0[q]? = some x := ⟨_, List.getElem?_eq_getElem hlq⟩
              obtain ⟨g, rfl, _, hg, hcs⟩ := HRD.out (fun e => by rw [e] at hlq; simp at hlq)
              have yx := (HL.out.1.cell (p := ⟨g, q, none⟩) hg (fun h => h)).trans (hcs q x hx)
              have HT := Lib.hid (filter_take_succ hx (fun x => x != (who : Int)))
              have hle : ((l0.take q).filter (fun x => x != (who : Int))).length ≤ 9 := Nat.le_trans (List.length_filter_le _ _) (by simp; omega)
              clear hcs hx
              obtain ⟨cur, hcur⟩ : ∃ cur, (l0.take q).filter (fun x => x != (who : Int)) = cur := ⟨_, rfl⟩
              rw [hcur] at HL HT hle
              clear hcur
              by_cases hxw : x = (who : Int)
              · have hx1 : (x != (who : Int)) = false := by simpa using hxw
                have HF := Lib.hid hx1
                clear hxw
                go_wp2
                exact ⟨⟨q + 1, by omega, by go_num, HL.out.1, by rw [HT.out, HF.out]; simpa using HL.out.2⟩, by simp [intOf]; omega⟩
              · have hx1 : (x != (who : Int)) = true := by simpa using hxw
                have HF := Lib.hid hx1
                clear hxw
                go_wp2_with ((with_reducible show wpList _ _ _ ((⟨some 76, _, _, _, _, _⟩ : Oper) :: _) _ _); refine wpList_append_own _ rfl (.tmp 64) (.tmp 75) _ rfl wo.heap.size 3 ie _ 1 8 Try.underlying45 hie hiz his hib rfl (by omega) _ _ _ rfl (HL.out.2.alloc _) ⟨wr.heap.size, 0, none⟩ 1 1 [.int .i64 x] rfl rfl (cell_one_new _ _ _) (by simp [Value.oneCell']) (by unfold maxLen; omega) (by omega) (by have := HL.out.1.size; rw [World.size_alloc]; omega) ?_)
                intro v' w1 hown1 hg1 _
                have hU1 : Upd (fun _ => False) wo w1 := (HL.out.1.alloc _).grown hg1 (fun k e => .inr (HL.out.2.lt k e).1)
                have HN1 := Lib.hid (And.intro hU1 hown1)
                clear hown1 hg1 hU1
                go_wp2
                exact ⟨⟨q + 1, by omega, by go_num, HN1.out.1, by rw [HT.out, HF.out]; simp only [if_true, List.length_append, List.map_append]; exact HN1.out.2⟩, by simp [intOf]; omega⟩
            · obtain rfl : q = l0.length := by omega
              have hfull : l0.take l0.length = l0 := List.take_of_length_le (Nat.le_refl _)
              rw [hfull] at HL
              have hcl : (l0.filter (fun x => x != (who : Int))).length ≤ 9 := Nat.le_trans (List.length_filter_le _ _) hl9
              obtain ⟨cur, hcur⟩ : ∃ cur, l0.filter (fun x => x != (who : Int)) = cur := ⟨_, rfl⟩
              rw [hcur] at HL HB hcl
              clear hcur hfull
              obtain ⟨hU, hown⟩ := HL.out
              have hst : Step (fun _ => False) own1 wo (ext own1 wo (100 + k)) wr := ⟨hU.mono (fun _ _ h => h), fun b hb => ext_old _ _ _ hb⟩
              have hP2 := H1.out.2.1.step hst (fun h => h) (fun _ _ h => h)
              have hM2 := H1.out.2.2.2.step hst (fun h => h)
              have hrow : Row (ext own1 wo (100 + k)) (100 + k) wr u7 cur := ⟨ownsRow_base0 hown, fun g e => ext_new _ _ _ (hown.lt g e).1⟩
              obtain ⟨A2, cap2, rfl, _⟩ := hrow.form
              have hP3 := hP2.setW k (Or.inl rfl) _ cur hrow hcl
              have hS3 := hP2.stepW k (.slice A2 cur.length cap2)
              have hM3 := hM2.step hS3 (by omega)
              have hzq := hP2.bw.frozen k
              have y0 := hP2.c0
              have hSS := (H1.out.1.trans (hst.mono (fun _ h => h.elim))).trans (hS3.mono (C' := fun x => x = c ∨ x = cm ∨ 100 ≤ x) (fun _ h => Or.inl h))
              have H3 := Lib.hid (And.intro hSS (And.intro hP3 hM3))
              have hzero := HB.out.1.zero
              clear hU hown hst hP2 hM2 hrow hP3 hS3 hM3 hSS HL
              by_cases hce : cur = []
              · subst hce
                have HA := Lib.hid (HB.out.2.trans (if_pos (hzero.2 rfl)))
                have HZ := Lib.hid (hzero.2 rfl)
                simp only [List.length_nil] at H3
                clear hzero
                simp only [List.length_nil]
                go_wp2_with fail
                refine (mref_Clear H3.out.2.2 k hlt).mono ?_; rintro e w5 ⟨rfl, hS5, hM5⟩
                have hP5 := H3.out.2.1.step hS5 (by omega) (by omega)
                have z3 := hP5.c3
                have zc := hP5.cellO k
                rw [HV.out, Option.map_some] at zc
                have zz := hP5.bo.frozen k
                have H5 := Lib.hid (And.intro (H3.out.1.trans (hS5.mono (fun x h => Or.inr (Or.inl h)))) (And.intro hP5 hM5))
                clear hS5 hP5 hM5 H3
                go_wp2
                have hS6 := H5.out.2.1.stepO k (.int .i64 0)
                refine ⟨⟨k + 1, by omega, by go_num, by rw [HN.out, HA.out]; rfl, ?_⟩, by simp [intOf]; omega⟩
                rw [HN.out, HA.out]
                exact ⟨_, _, _, H5.out.1.trans (hS6.mono (fun x h => Or.inl h)), H5.out.2.1.setO k 0, H1.out.2.2.1.set_ (fun h => by cases h) (fun _ => rfl), H5.out.2.2.step hS6 (by omega)⟩
              · have hne : ¬ bits .and .u64 b nb = 0 := fun h => hce (hzero.1 h)
                have HA := Lib.hid (HB.out.2.trans (if_neg hne))
                have hlen : ((cur.length : Int) == 0) = false := by
                  have : cur.length ≠ 0 := fun h => hce (List.eq_nil_of_length_eq_zero h)
                  simp; omega
                have hsame : s1.ow = s1.ow.set k (-2) := by
                  apply List.ext_getElem?
                  intro j
                  by_cases e : j = k
                  · subst e; rw [List.getElem?_set_self (List.getElem?_eq_some_iff.1 HV.out).1, HV.out]
                  · rw [List.getElem?_set_ne (Ne.symm e)]
                have hR := H1.out.2.2.1.set_ (k := k) (o := -2) (fun _ => HB.out.1) (fun h => absurd rfl h)
                rw [← hsame] at hR
                have HR2 := Lib.hid hR
                clear hzero hne hsame hR hce
                go_wp2
                refine ⟨⟨k + 1, by omega, by go_num, by rw [HN.out, HA.out], ?_⟩, by simp [intOf]; omega⟩
                rw [HN.out, HA.out]
                exact ⟨_, _, _, H3.out.1, H3.out.2.1, HR2.out, H3.out.2.2⟩
        · have hne : (v != -2) = true := by simpa using he
          have hack : ack1 nb s1 k = s1 := by simp [ack1, hv, he]
          have HA := Lib.hid hack
          have H1 := Lib.hid (And.intro hS (And.intro hP (And.intro hA hM)))
          clear hack hS hP hA hM hv
          go_wp2
          exact ⟨⟨k + 1, by omega, by go_num, by rw [HN.out, HA.out], by rw [HN.out, HA.out]; exact ⟨own1, vs1, ls1, H1.out⟩⟩, by simp [intOf]; omega⟩
      · obtain rfl : k = n := by omega
        obtain ⟨own1, vs1, ls1, hS, hP, hA, hM⟩ := HR.out
        have h3 := hP.c3
        have H1 := Lib.hid (And.intro hS (And.intro hP (And.intro hA hM)))
        clear hS hP hA hM HR
        go_wp2
        go_ret
        exact ⟨rfl, own1, H1.out.1, ⟨qo, qw, vs1, ls1, H1.out.2.1, H1.out.2.2.1⟩, H1.out.2.2.2⟩
end
end Go.Proofs.Ytpodeclkgcgpgaa
