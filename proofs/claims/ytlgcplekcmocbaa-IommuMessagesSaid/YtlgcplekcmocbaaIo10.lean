import Derived.Test.YtlgcplekcmocbaaIo9
/- IommuMessages: the walk (printed by gio.py). -/
namespace Go.Proofs.Ytlgcplekcmocbaa
set_option linter.unusedVariables false
set_option linter.unusedSimpArgs false
open Go.RowKit
set_option maxRecDepth 100000

set_option maxHeartbeats 8000000 in
theorem messages_calls (dev : Int) (hv0 : -9223372036854775808 ≤ dev) (hv1 : dev ≤ 9223372036854775807) (index addr other : Nat) (hi : index < 18446744073709551616) (haddr : addr < 18446744073709551616) (hoth : other < 18446744073709551616) (A : Option Addr) (cap : Nat) (os : List Int) (w : World)
    (hrd : Reads w w.heap.size 1 A os.length (os.map (.int .i64))) (hm : os.length ≤ 9223372036854775807) (ho : ∀ z ∈ os, (-9223372036854775808 ≤ z ∧ z ≤ 9223372036854775807)) :
    Calls Try.prog 3 #[.int .i64 dev, .int .u64 (index : Int), .slice A os.length cap, .int .u64 (addr : Int), .int .u64 (other : Int)] w fun e w' => e = .returned (.bool true) ∧ Upd (fun _ => False) w w' := by
  have HX := Lib.hid (And.intro hrd ho)
  obtain ⟨d, hd⟩ : ∃ d : Nat, dev % 8 = (d : Int) := ⟨(dev % 8).toNat, by omega⟩
  have hd8 : d < 8 := by omega
  obtain ⟨k, hk⟩ : ∃ k : Nat, (index : Int) % 32 = (k : Int) := ⟨index % 32, by omega⟩
  have hk32 : k < 32 := by omega
  have hP := fun w => place_calls dev 8 w hv0 hv1 (by decide) (by decide)
  rw [hd] at hP
  have HP := Lib.hid hP
  have HP9 := Lib.hid (fun (z : Int) (h : (-9223372036854775808 ≤ z ∧ z ≤ 9223372036854775807)) w => place_calls z 9 w h.1 h.2 (by decide) (by decide))
  have hN := law07_New (fun _ => 0) 1 2 3 4 5 2 (by decide) w (by decide) (by decide)
  rw [show ((2 : Nat) : Int) = 2 from rfl] at hN
  have HN := Lib.hid hN
  clear hN hP hrd ho hd hv0 hv1
  go_enter Try.func3, Try.ntmps3
  go_wp2_with fail
  ((with_reducible refine HN.out.mono ?_); rintro e w1 ⟨p, q, rp, tp, p2, own1, rfl, hS1, hU1, hM1, hT1⟩)
  have hS2 : Step (fun _ => False) own1 w1 (ext own1 w1 9) (w1.alloc (.cells #[.pointer (some ⟨p, 0, none⟩), .pointer (some ⟨q, 0, none⟩), .pointer (some ⟨rp, 0, none⟩), .pointer (some ⟨p2, 0, none⟩)] 31)) := ⟨(Upd.refl _ _).alloc _, fun b hb => ext_old _ _ _ hb⟩
  have hR := io_Ring (hU1.step hS2 (fun h => h)) (hM1.step hS2 (fun h => h)) 0 (by decide) (by decide)
  rw [show ((0 : Nat) : Int) = 0 from rfl] at hR
  have HR := Lib.hid hR
  have H1 := Lib.hid (And.intro ((hS1.trans hS2).mono (C' := (· = 1)) (fun _ h => h.elim)) (And.intro (hM1.step hS2 (fun h => h)) (And.intro (Blk.new w1 31 #[.pointer (some ⟨p, 0, none⟩), .pointer (some ⟨q, 0, none⟩), .pointer (some ⟨rp, 0, none⟩), .pointer (some ⟨p2, 0, none⟩)]) (show ext own1 w1 9 w1.heap.size = 9 from ext_new _ _ _ (Nat.le_refl _)))))
  clear hS1 hU1 hM1 hT1 hS2 hR HN
  go_wp2_with fail
  ((with_reducible refine (HP.out _).mono ?_); rintro e wz ⟨rfl, rfl⟩)
  go_wp2_with fail
  ((with_reducible refine HR.out.mono ?_); rintro e w2 ⟨rfl, hS2, hU2⟩)
  obtain ⟨k1, k2⟩ := hS2.blk H1.out.2.2.1 H1.out.2.2.2 (by decide)
  have hM2 := H1.out.2.1.step hS2 (by decide)
  have hS3 : Step (fun _ => False) (ext own1 w1 9) w2 (ext (ext own1 w1 9) w2 8) (w2.alloc (.cells #[.int .i64 0, .int .i64 0] 38)) := ⟨(Upd.refl _ _).alloc _, fun b hb => ext_old _ _ _ hb⟩
  have H2 := Lib.hid (show MB w (ext (ext own1 w1 9) w2 8) (w2.alloc (.cells #[.int .i64 0, .int .i64 0] 38)) p q rp tp p2 w1.heap.size w2.heap.size 0 0 (usRg us0 0) (fun _ => 0) [] from
    ⟨((H1.out.1.trans hS2).mono (fun x h => Or.inl h)).trans (hS3.mono (fun _ h => h.elim)), hU2.step hS3 (fun h => h), hM2.step hS3 (fun h => h), hS3.blk k1 k2 (fun h => h), ⟨Blk.new _ _ _, ext_new _ _ _ (Nat.le_refl _)⟩, fun x hx => by cases hx⟩)
  have hlo := k1.lt
  clear hS2 hU2 k1 k2 hM2 hS3 H1 HR HP
  generalize w1.heap.size = xo at *
  go_wp2
  generalize hxw : w2.heap.size = xw at *
  go_loopw [16] (fun i wr => ∃ (j : Nat), j ≤ os.length ∧ i = .int .i64 (j : Int) ∧ Hid (∃ own' s G I, MB w own' wr p q rp tp p2 xo xw G I s (fun _ => 0) [] ∧ MsOk s d k G I 0 0)) (fun i _ => os.length - (intOf i).toNat)
  case atStart => exact ⟨0, by omega, rfl, _, _, _, _, H2.out, MsOk.init d k⟩
  case round =>
    rename World => wr
    obtain ⟨j, hj, rfl, HL⟩ := hrel
    obtain ⟨own3, s, G, I, hB, hs⟩ := HL.out
    have o0 := hB.o.1.cell 0
    simp only [List.getElem?_toArray, List.getElem?_cons_zero] at o0
    have hlo2 := hB.o.1.lt
    have hlw := hB.wt.1.lt
    by_cases hlt : j < os.length
    · have hlt' : (j : Int) < (os.length : Int) := by omega
      obtain ⟨ob, oo, rfl, hob, hoc⟩ := HX.out.1.first (by omega) (by omega)
      have hget : os[j]? = some os[j] := List.getElem?_eq_getElem hlt
      have hwf := HX.out.2 _ (List.getElem_mem hlt)
      have c0 := (hB.upd.cell (p := ⟨ob, oo + j, none⟩) hob (fun h => h)).trans (hoc j _ (by rw [List.getElem?_map, hget]; rfl))
      generalize os[j] = z at *
      have hPz := HP9.out z hwf
      obtain ⟨g, hg⟩ : ∃ g, z % 9 = g := ⟨_, rfl⟩
      rw [hg] at hPz
      have HPz := Lib.hid hPz
      have hB1 := hB.alloc (.cells #[.int .i64 g, .int .i64 (j : Int)] 38)
      have HRm := Lib.hid (io_Remap hB1.u d k hd8 hk32 g (j : Int))
      have H3 := Lib.hid (And.intro hB1 (And.intro hs (And.intro (Blk.new wr 38 #[.int .i64 g, .int .i64 (j : Int)]) (show ext own3 wr 9 wr.heap.size = 9 from ext_new _ _ _ (Nat.le_refl _)))))
      clear hB hs hB1 hoc hget hwf hg hPz HL H2
      go_wp2_with fail
      ((with_reducible refine (HPz.out _).mono ?_); rintro e wz ⟨rfl, rfl⟩)
      go_wp2_with fail
      ((with_reducible refine HRm.out.mono ?_); rintro e w4 ⟨rfl, own4, hS4, hU4⟩)
      have hB4 := H3.out.1.step (hS4.mono (fun x h => Or.inl h)) hU4 (H3.out.1.mm.step hS4 (by decide))
      obtain ⟨n1, n2⟩ := hS4.blk H3.out.2.2.1 H3.out.2.2.2 (by decide)
      have m0 := n1.cell 0
      have m1 := n1.cell 1
      have y0 := hB4.wt.1.cell 0
      have y1 := hB4.wt.1.cell 1
      simp only [List.getElem?_toArray, List.getElem?_cons_zero, List.getElem?_cons_succ] at m0 m1 y0 y1
      have f0 := hB4.wt.1.frozen 0
      have f1 := hB4.wt.1.frozen 1
      have hlw4 := hB4.wt.1.lt
      have H4 := Lib.hid (And.intro (hB4.want g (j : Int)) (H3.out.2.1.set g (j : Int)))
      clear hB4 hS4 hU4 n1 n2 H3 HRm HPz c0
      go_wp2
      exact ⟨⟨j + 1, by omega, by go_num, _, _, _, _, H4.out⟩, by simp [intOf]; omega⟩
    · obtain rfl : j = os.length := by omega
      have hlt' : decide ((os.length : Int) < (os.length : Int)) = false := by simp
      clear HL H2 HX HP9
      have y0 := hB.wt.1.cell 0
      have y1 := hB.wt.1.cell 1
      simp only [List.getElem?_toArray, List.getElem?_cons_zero, List.getElem?_cons_succ] at y0 y1
      have f0 := hB.wt.1.frozen 0
      have f1 := hB.wt.1.frozen 1
      obtain ⟨dn, hdn⟩ : ∃ dn : Nat, ((d : Int) + 1) % 8 = (dn : Int) := ⟨(d + 1) % 8, by omega⟩
      have hdt : Int.tmod ((d : Int) + 1) 8 = (dn : Int) := by rw [Int.tmod_eq_emod_of_nonneg (by omega)]; exact hdn
      have hdn8 : dn < 8 := by omega
      have hdne : dn ≠ d := by omega
      have hK0 : KindsOk 0 (fun _ => 0) := fun i hi => absurd hi (by omega)
      by_cases hG : G = 0
      · subst hG
        have hB5 := hB.want 0 0
        have h1 := hB5.bad hs hK0 (by decide) d 4276092928 k hd8 (by decide) (Or.inr (Or.inr hs.g))
        rw [show ((4276092928 : Nat) : Int) = 4276092928 from rfl] at h1
        have HC1 := Lib.hid h1
        clear hB hs hB5 h1
        by_cases hae : addr = 4276092928
        · subst hae
          rw [show ((4276092928 : Nat) : Int) = 4276092928 from rfl]
          by_cases hoe : k = other
          · subst hoe
            go_wp2_with fail
            ((with_reducible refine HC1.out.mono ?_); rintro e w6 ⟨rfl, own6, s6, m6, hB6, hs6, hK6⟩)
            clear HC1
            have v0 := hB6.wt.1.cell 0
            have v1 := hB6.wt.1.cell 1
            have u0 := hB6.o.1.cell 0
            simp only [List.getElem?_toArray, List.getElem?_cons_zero, List.getElem?_cons_succ] at v0 v1 u0
            have hl6 := hB6.wt.1.lt
            have hl6o := hB6.o.1.lt
            have hB7 := hB6.alloc (.cells #[.int .i64 0, .int .i64 0] 38)
            have h2 := hB7.bad hs6 hK6 (by decide) d 4276092936 k hd8 (by omega) (Or.inl (by decide))
            rw [show ((4276092936 : Nat) : Int) = 4276092936 from rfl] at h2
            have HC2 := Lib.hid h2
            clear hB6 hs6 hK6 hB7 h2
            go_wp2_with fail
            ((with_reducible refine HC2.out.mono ?_); rintro e w8 ⟨rfl, own8, s8, m8, hB8, hs8, hK8⟩)
            have u0 := hB8.o.1.cell 0
            simp only [List.getElem?_toArray, List.getElem?_cons_zero, List.getElem?_cons_succ] at u0
            have hl8 := hB8.o.1.lt
            have hB9 := hB8.alloc0
            have h3 := hB9.bad hs8 hK8 (by decide) d 4276092928 (k + 1) hd8 (by decide) (Or.inr (Or.inr (hs8.far _ _ (Or.inr (by omega)))))
            rw [show ((4276092928 : Nat) : Int) = 4276092928 from rfl, show ((k + 1 : Nat) : Int) = (k : Int) + 1 from rfl] at h3
            have HC3 := Lib.hid h3
            clear hB8 hs8 hK8 hB9 h3 HC2 v0 v1
            go_wp2_with fail
            generalize hx20 : w8.heap.size = x20 at *
            ((with_reducible refine HC3.out.mono ?_); rintro e w9 ⟨rfl, own9, s9, m9, hB9, hs9, hK9⟩)
            have u0 := hB9.o.1.cell 0
            simp only [List.getElem?_toArray, List.getElem?_cons_zero, List.getElem?_cons_succ] at u0
            have hl9 := hB9.o.1.lt
            have hB10 := hB9.alloc0
            have h4 := hB10.bad hs9 hK9 (by decide) dn 4276092928 k hdn8 (by decide) (Or.inr (Or.inr (hs9.far _ _ (Or.inl hdne))))
            rw [show ((4276092928 : Nat) : Int) = 4276092928 from rfl] at h4
            have HC4 := Lib.hid h4
            clear hB9 hs9 hK9 hB10 h4 HC3
            go_wp2_with fail
            generalize hx22 : w9.heap.size = x22 at *
            ((with_reducible refine HC4.out.mono ?_); rintro e w10 ⟨rfl, own10, s10, m10, hB10, hs10, hK10⟩)
            have a0 := (hB10.bs x20 (by simp)).1.cell 0
            have a1 := (hB10.bs x20 (by simp)).1.cell 1
            have b0 := (hB10.bs x22 (by simp)).1.cell 0
            have b1 := (hB10.bs x22 (by simp)).1.cell 1
            simp only [List.getElem?_toArray, List.getElem?_cons_zero, List.getElem?_cons_succ] at a0 a1 b0 b1
            have la := (hB10.bs x20 (by simp)).1.lt
            have lb := (hB10.bs x22 (by simp)).1.lt
            have H10 := Lib.hid (And.intro hB10.alloc0 (And.intro hs10 hK10))
            clear hB10 hs10 hK10 HC4 u0
            go_wp2
            go_loopw [26] (fun n wr => ∃ (j : Nat), j ≤ 4 ∧ n = .int .i64 (j : Int) ∧ Hid (∃ own' s m bs, MB w own' wr p q rp tp p2 xo xw 0 0 s m bs ∧ MsOk s d k 0 I j (4 - j) ∧ KindsOk 4 m)) (fun n _ => 4 - (intOf n).toNat)
            case atStart => exact ⟨0, by omega, rfl, _, _, _, _, H10.out⟩
            case round =>
              rename World => wn
              obtain ⟨j, hj, rfl, HL⟩ := hrel
              obtain ⟨own11, s11, m11, bs11, hB, hs, hK⟩ := HL.out
              have o0 := hB.o.1.cell 0
              simp only [List.getElem?_toArray, List.getElem?_cons_zero, List.getElem?_cons_succ] at o0
              have hlo11 := hB.o.1.lt
              by_cases hlt : j < 4
              · obtain ⟨e0, e1, hs2⟩ := hs.next (by omega) (by omega)
                have hX := io_Next hB.u hB.mm (by decide) hs.ok e0
                rw [e1, hK j hlt] at hX
                obtain ⟨x1, h1⟩ : ∃ x, num m11 (j * 16) 4 = x := ⟨_, rfl⟩
                obtain ⟨x3, h3⟩ : ∃ x, num m11 (j * 16 + 8) 8 = x := ⟨_, rfl⟩
                rw [h1, h3] at hX
                have HXn := Lib.hid hX
                have HS := Lib.hid (And.intro hB (And.intro hs2 hK))
                clear hB hs hs2 hK hX HL h1 h3 e0 e1
                go_wp2_with fail
                ((with_reducible refine HXn.out.mono ?_); rintro e w12 ⟨rfl, own12, hS12, hU12, hM12⟩)
                have H12 := Lib.hid (fun o => ((HS.out.1.step (hS12.mono (fun x h => Or.inl h)) hU12 hM12).alloc o))
                clear hS12 hU12 hM12 HXn o0
                go_wp2
                exact ⟨⟨j + 1, by omega, by go_num, _, _, _, _, H12.out _, by rw [show 4 - (j + 1) = 4 - j - 1 from by omega]; exact HS.out.2.1, HS.out.2.2⟩, by simp [intOf]; omega⟩
              · obtain rfl : j = 4 := by omega
                rw [Nat.sub_self] at hs
                rw [show ((4 : Nat) : Int) = 4 from rfl]
                have HXn := Lib.hid (io_Next_none hB.u hB.mm hs.none_)
                have HS := Lib.hid hB
                clear hB hs hK HL H10
                go_wp2_with fail
                ((with_reducible refine HXn.out.mono ?_); rintro e w12 ⟨rfl, own12, hS12, hU12, hM12⟩)
                have H12 := Lib.hid (fun o => ((HS.out.step (hS12.mono (fun _ h => h.elim)) hU12 hM12).alloc o).upd)
                clear hS12 hU12 hM12 HXn o0 HS
                go_wp2_with fail
                ((with_reducible refine (awake07 _).mono ?_); rintro e w13 ⟨rfl, hU13⟩)
                have HE := Lib.hid ((H12.out _).trans' hU13 (fun _ _ e => e))
                clear hU13 H12
                go_wp2
                go_ret
                exact ⟨rfl, HE.out⟩
          · have hoe0 : ((other : Int) == (k : Int)) = false := by simp; omega
            go_wp2_with fail
            ((with_reducible refine HC1.out.mono ?_); rintro e w6 ⟨rfl, own6, s6, m6, hB6, hs6, hK6⟩)
            clear HC1
            have v0 := hB6.wt.1.cell 0
            have v1 := hB6.wt.1.cell 1
            have u0 := hB6.o.1.cell 0
            simp only [List.getElem?_toArray, List.getElem?_cons_zero, List.getElem?_cons_succ] at v0 v1 u0
            have hl6 := hB6.wt.1.lt
            have hl6o := hB6.o.1.lt
            have hB7 := hB6.alloc (.cells #[.int .i64 0, .int .i64 0] 38)
            have h2 := hB7.bad hs6 hK6 (by decide) d 4276092936 k hd8 (by omega) (Or.inl (by decide))
            rw [show ((4276092936 : Nat) : Int) = 4276092936 from rfl] at h2
            have HC2 := Lib.hid h2
            clear hB6 hs6 hK6 hB7 h2
            go_wp2_with fail
            ((with_reducible refine HC2.out.mono ?_); rintro e w8 ⟨rfl, own8, s8, m8, hB8, hs8, hK8⟩)
            have u0 := hB8.o.1.cell 0
            simp only [List.getElem?_toArray, List.getElem?_cons_zero, List.getElem?_cons_succ] at u0
            have hl8 := hB8.o.1.lt
            have hB9 := hB8.alloc0
            have h3 := hB9.bad hs8 hK8 (by decide) d 4276092928 other hd8 (by decide) (Or.inr (Or.inr (hs8.far _ _ (Or.inr (fun e => hoe e.symm)))))
            rw [show ((4276092928 : Nat) : Int) = 4276092928 from rfl] at h3
            have HC3 := Lib.hid h3
            clear hB8 hs8 hK8 hB9 h3 HC2 v0 v1
            go_wp2_with fail
            generalize hx20 : w8.heap.size = x20 at *
            ((with_reducible refine HC3.out.mono ?_); rintro e w9 ⟨rfl, own9, s9, m9, hB9, hs9, hK9⟩)
            have u0 := hB9.o.1.cell 0
            simp only [List.getElem?_toArray, List.getElem?_cons_zero, List.getElem?_cons_succ] at u0
            have hl9 := hB9.o.1.lt
            have hB10 := hB9.alloc0
            have h4 := hB10.bad hs9 hK9 (by decide) dn 4276092928 k hdn8 (by decide) (Or.inr (Or.inr (hs9.far _ _ (Or.inl hdne))))
            rw [show ((4276092928 : Nat) : Int) = 4276092928 from rfl] at h4
            have HC4 := Lib.hid h4
            clear hB9 hs9 hK9 hB10 h4 HC3
            go_wp2_with fail
            generalize hx22 : w9.heap.size = x22 at *
            ((with_reducible refine HC4.out.mono ?_); rintro e w10 ⟨rfl, own10, s10, m10, hB10, hs10, hK10⟩)
            have a0 := (hB10.bs x20 (by simp)).1.cell 0
            have a1 := (hB10.bs x20 (by simp)).1.cell 1
            have b0 := (hB10.bs x22 (by simp)).1.cell 0
            have b1 := (hB10.bs x22 (by simp)).1.cell 1
            simp only [List.getElem?_toArray, List.getElem?_cons_zero, List.getElem?_cons_succ] at a0 a1 b0 b1
            have la := (hB10.bs x20 (by simp)).1.lt
            have lb := (hB10.bs x22 (by simp)).1.lt
            have H10 := Lib.hid (And.intro hB10.alloc0 (And.intro hs10 hK10))
            clear hB10 hs10 hK10 HC4 u0
            go_wp2
            go_loopw [26] (fun n wr => ∃ (j : Nat), j ≤ 4 ∧ n = .int .i64 (j : Int) ∧ Hid (∃ own' s m bs, MB w own' wr p q rp tp p2 xo xw 0 0 s m bs ∧ MsOk s d k 0 I j (4 - j) ∧ KindsOk 4 m)) (fun n _ => 4 - (intOf n).toNat)
            case atStart => exact ⟨0, by omega, rfl, _, _, _, _, H10.out⟩
            case round =>
              rename World => wn
              obtain ⟨j, hj, rfl, HL⟩ := hrel
              obtain ⟨own11, s11, m11, bs11, hB, hs, hK⟩ := HL.out
              have o0 := hB.o.1.cell 0
              simp only [List.getElem?_toArray, List.getElem?_cons_zero, List.getElem?_cons_succ] at o0
              have hlo11 := hB.o.1.lt
              by_cases hlt : j < 4
              · obtain ⟨e0, e1, hs2⟩ := hs.next (by omega) (by omega)
                have hX := io_Next hB.u hB.mm (by decide) hs.ok e0
                rw [e1, hK j hlt] at hX
                obtain ⟨x1, h1⟩ : ∃ x, num m11 (j * 16) 4 = x := ⟨_, rfl⟩
                obtain ⟨x3, h3⟩ : ∃ x, num m11 (j * 16 + 8) 8 = x := ⟨_, rfl⟩
                rw [h1, h3] at hX
                have HXn := Lib.hid hX
                have HS := Lib.hid (And.intro hB (And.intro hs2 hK))
                clear hB hs hs2 hK hX HL h1 h3 e0 e1
                go_wp2_with fail
                ((with_reducible refine HXn.out.mono ?_); rintro e w12 ⟨rfl, own12, hS12, hU12, hM12⟩)
                have H12 := Lib.hid (fun o => ((HS.out.1.step (hS12.mono (fun x h => Or.inl h)) hU12 hM12).alloc o))
                clear hS12 hU12 hM12 HXn o0
                go_wp2
                exact ⟨⟨j + 1, by omega, by go_num, _, _, _, _, H12.out _, by rw [show 4 - (j + 1) = 4 - j - 1 from by omega]; exact HS.out.2.1, HS.out.2.2⟩, by simp [intOf]; omega⟩
              · obtain rfl : j = 4 := by omega
                rw [Nat.sub_self] at hs
                rw [show ((4 : Nat) : Int) = 4 from rfl]
                have HXn := Lib.hid (io_Next_none hB.u hB.mm hs.none_)
                have HS := Lib.hid hB
                clear hB hs hK HL H10
                go_wp2_with fail
                ((with_reducible refine HXn.out.mono ?_); rintro e w12 ⟨rfl, own12, hS12, hU12, hM12⟩)
                have H12 := Lib.hid (fun o => ((HS.out.step (hS12.mono (fun _ h => h.elim)) hU12 hM12).alloc o).upd)
                clear hS12 hU12 hM12 HXn o0 HS
                go_wp2_with fail
                ((with_reducible refine (awake07 _).mono ?_); rintro e w13 ⟨rfl, hU13⟩)
                have HE := Lib.hid ((H12.out _).trans' hU13 (fun _ _ e => e))
                clear hU13 H12
                go_wp2
                go_ret
                exact ⟨rfl, HE.out⟩
        · have hae0 : ((addr : Int) == 4276092928) = false := by simp; omega
          by_cases hoe : k = other
          · subst hoe
            go_wp2_with fail
            ((with_reducible refine HC1.out.mono ?_); rintro e w6 ⟨rfl, own6, s6, m6, hB6, hs6, hK6⟩)
            clear HC1
            have v0 := hB6.wt.1.cell 0
            have v1 := hB6.wt.1.cell 1
            have u0 := hB6.o.1.cell 0
            simp only [List.getElem?_toArray, List.getElem?_cons_zero, List.getElem?_cons_succ] at v0 v1 u0
            have hl6 := hB6.wt.1.lt
            have hl6o := hB6.o.1.lt
            have hB7 := hB6.alloc (.cells #[.int .i64 0, .int .i64 0] 38)
            have h2 := hB7.bad hs6 hK6 (by decide) d addr k hd8 (by omega) (Or.inl hae)
            have HC2 := Lib.hid h2
            clear hB6 hs6 hK6 hB7 h2
            go_wp2_with fail
            ((with_reducible refine HC2.out.mono ?_); rintro e w8 ⟨rfl, own8, s8, m8, hB8, hs8, hK8⟩)
            have u0 := hB8.o.1.cell 0
            simp only [List.getElem?_toArray, List.getElem?_cons_zero, List.getElem?_cons_succ] at u0
            have hl8 := hB8.o.1.lt
            have hB9 := hB8.alloc0
            have h3 := hB9.bad hs8 hK8 (by decide) d 4276092928 (k + 1) hd8 (by decide) (Or.inr (Or.inr (hs8.far _ _ (Or.inr (by omega)))))
            rw [show ((4276092928 : Nat) : Int) = 4276092928 from rfl, show ((k + 1 : Nat) : Int) = (k : Int) + 1 from rfl] at h3
            have HC3 := Lib.hid h3
            clear hB8 hs8 hK8 hB9 h3 HC2 v0 v1
            go_wp2_with fail
            generalize hx20 : w8.heap.size = x20 at *
            ((with_reducible refine HC3.out.mono ?_); rintro e w9 ⟨rfl, own9, s9, m9, hB9, hs9, hK9⟩)
            have u0 := hB9.o.1.cell 0
            simp only [List.getElem?_toArray, List.getElem?_cons_zero, List.getElem?_cons_succ] at u0
            have hl9 := hB9.o.1.lt
            have hB10 := hB9.alloc0
            have h4 := hB10.bad hs9 hK9 (by decide) dn 4276092928 k hdn8 (by decide) (Or.inr (Or.inr (hs9.far _ _ (Or.inl hdne))))
            rw [show ((4276092928 : Nat) : Int) = 4276092928 from rfl] at h4
            have HC4 := Lib.hid h4
            clear hB9 hs9 hK9 hB10 h4 HC3
            go_wp2_with fail
            generalize hx22 : w9.heap.size = x22 at *
            ((with_reducible refine HC4.out.mono ?_); rintro e w10 ⟨rfl, own10, s10, m10, hB10, hs10, hK10⟩)
            have a0 := (hB10.bs x20 (by simp)).1.cell 0
            have a1 := (hB10.bs x20 (by simp)).1.cell 1
            have b0 := (hB10.bs x22 (by simp)).1.cell 0
            have b1 := (hB10.bs x22 (by simp)).1.cell 1
            simp only [List.getElem?_toArray, List.getElem?_cons_zero, List.getElem?_cons_succ] at a0 a1 b0 b1
            have la := (hB10.bs x20 (by simp)).1.lt
            have lb := (hB10.bs x22 (by simp)).1.lt
            have H10 := Lib.hid (And.intro hB10.alloc0 (And.intro hs10 hK10))
            clear hB10 hs10 hK10 HC4 u0
            go_wp2
            go_loopw [26] (fun n wr => ∃ (j : Nat), j ≤ 4 ∧ n = .int .i64 (j : Int) ∧ Hid (∃ own' s m bs, MB w own' wr p q rp tp p2 xo xw 0 0 s m bs ∧ MsOk s d k 0 I j (4 - j) ∧ KindsOk 4 m)) (fun n _ => 4 - (intOf n).toNat)
            case atStart => exact ⟨0, by omega, rfl, _, _, _, _, H10.out⟩
            case round =>
              rename World => wn
              obtain ⟨j, hj, rfl, HL⟩ := hrel
              obtain ⟨own11, s11, m11, bs11, hB, hs, hK⟩ := HL.out
              have o0 := hB.o.1.cell 0
              simp only [List.getElem?_toArray, List.getElem?_cons_zero, List.getElem?_cons_succ] at o0
              have hlo11 := hB.o.1.lt
              by_cases hlt : j < 4
              · obtain ⟨e0, e1, hs2⟩ := hs.next (by omega) (by omega)
                have hX := io_Next hB.u hB.mm (by decide) hs.ok e0
                rw [e1, hK j hlt] at hX
                obtain ⟨x1, h1⟩ : ∃ x, num m11 (j * 16) 4 = x := ⟨_, rfl⟩
                obtain ⟨x3, h3⟩ : ∃ x, num m11 (j * 16 + 8) 8 = x := ⟨_, rfl⟩
                rw [h1, h3] at hX
                have HXn := Lib.hid hX
                have HS := Lib.hid (And.intro hB (And.intro hs2 hK))
                clear hB hs hs2 hK hX HL h1 h3 e0 e1
                go_wp2_with fail
                ((with_reducible refine HXn.out.mono ?_); rintro e w12 ⟨rfl, own12, hS12, hU12, hM12⟩)
                have H12 := Lib.hid (fun o => ((HS.out.1.step (hS12.mono (fun x h => Or.inl h)) hU12 hM12).alloc o))
                clear hS12 hU12 hM12 HXn o0
                go_wp2
                exact ⟨⟨j + 1, by omega, by go_num, _, _, _, _, H12.out _, by rw [show 4 - (j + 1) = 4 - j - 1 from by omega]; exact HS.out.2.1, HS.out.2.2⟩, by simp [intOf]; omega⟩
              · obtain rfl : j = 4 := by omega
                rw [Nat.sub_self] at hs
                rw [show ((4 : Nat) : Int) = 4 from rfl]
                have HXn := Lib.hid (io_Next_none hB.u hB.mm hs.none_)
                have HS := Lib.hid hB
                clear hB hs hK HL H10
                go_wp2_with fail
                ((with_reducible refine HXn.out.mono ?_); rintro e w12 ⟨rfl, own12, hS12, hU12, hM12⟩)
                have H12 := Lib.hid (fun o => ((HS.out.step (hS12.mono (fun _ h => h.elim)) hU12 hM12).alloc o).upd)
                clear hS12 hU12 hM12 HXn o0 HS
                go_wp2_with fail
                ((with_reducible refine (awake07 _).mono ?_); rintro e w13 ⟨rfl, hU13⟩)
                have HE := Lib.hid ((H12.out _).trans' hU13 (fun _ _ e => e))
                clear hU13 H12
                go_wp2
                go_ret
                exact ⟨rfl, HE.out⟩
          · have hoe0 : ((other : Int) == (k : Int)) = false := by simp; omega
            go_wp2_with fail
            ((with_reducible refine HC1.out.mono ?_); rintro e w6 ⟨rfl, own6, s6, m6, hB6, hs6, hK6⟩)
            clear HC1
            have v0 := hB6.wt.1.cell 0
            have v1 := hB6.wt.1.cell 1
            have u0 := hB6.o.1.cell 0
            simp only [List.getElem?_toArray, List.getElem?_cons_zero, List.getElem?_cons_succ] at v0 v1 u0
            have hl6 := hB6.wt.1.lt
            have hl6o := hB6.o.1.lt
            have hB7 := hB6.alloc (.cells #[.int .i64 0, .int .i64 0] 38)
            have h2 := hB7.bad hs6 hK6 (by decide) d addr k hd8 (by omega) (Or.inl hae)
            have HC2 := Lib.hid h2
            clear hB6 hs6 hK6 hB7 h2
            go_wp2_with fail
            ((with_reducible refine HC2.out.mono ?_); rintro e w8 ⟨rfl, own8, s8, m8, hB8, hs8, hK8⟩)
            have u0 := hB8.o.1.cell 0
            simp only [List.getElem?_toArray, List.getElem?_cons_zero, List.getElem?_cons_succ] at u0
            have hl8 := hB8.o.1.lt
            have hB9 := hB8.alloc0
            have h3 := hB9.bad hs8 hK8 (by decide) d 4276092928 other hd8 (by decide) (Or.inr (Or.inr (hs8.far _ _ (Or.inr (fun e => hoe e.symm)))))
            rw [show ((4276092928 : Nat) : Int) = 4276092928 from rfl] at h3
            have HC3 := Lib.hid h3
            clear hB8 hs8 hK8 hB9 h3 HC2 v0 v1
            go_wp2_with fail
            generalize hx20 : w8.heap.size = x20 at *
            ((with_reducible refine HC3.out.mono ?_); rintro e w9 ⟨rfl, own9, s9, m9, hB9, hs9, hK9⟩)
            have u0 := hB9.o.1.cell 0
            simp only [List.getElem?_toArray, List.getElem?_cons_zero, List.getElem?_cons_succ] at u0
            have hl9 := hB9.o.1.lt
            have hB10 := hB9.alloc0
            have h4 := hB10.bad hs9 hK9 (by decide) dn 4276092928 k hdn8 (by decide) (Or.inr (Or.inr (hs9.far _ _ (Or.inl hdne))))
            rw [show ((4276092928 : Nat) : Int) = 4276092928 from rfl] at h4
            have HC4 := Lib.hid h4
            clear hB9 hs9 hK9 hB10 h4 HC3
            go_wp2_with fail
            generalize hx22 : w9.heap.size = x22 at *
            ((with_reducible refine HC4.out.mono ?_); rintro e w10 ⟨rfl, own10, s10, m10, hB10, hs10, hK10⟩)
            have a0 := (hB10.bs x20 (by simp)).1.cell 0
            have a1 := (hB10.bs x20 (by simp)).1.cell 1
            have b0 := (hB10.bs x22 (by simp)).1.cell 0
            have b1 := (hB10.bs x22 (by simp)).1.cell 1
            simp only [List.getElem?_toArray, List.getElem?_cons_zero, List.getElem?_cons_succ] at a0 a1 b0 b1
            have la := (hB10.bs x20 (by simp)).1.lt
            have lb := (hB10.bs x22 (by simp)).1.lt
            have H10 := Lib.hid (And.intro hB10.alloc0 (And.intro hs10 hK10))
            clear hB10 hs10 hK10 HC4 u0
            go_wp2
            go_loopw [26] (fun n wr => ∃ (j : Nat), j ≤ 4 ∧ n = .int .i64 (j : Int) ∧ Hid (∃ own' s m bs, MB w own' wr p q rp tp p2 xo xw 0 0 s m bs ∧ MsOk s d k 0 I j (4 - j) ∧ KindsOk 4 m)) (fun n _ => 4 - (intOf n).toNat)
            case atStart => exact ⟨0, by omega, rfl, _, _, _, _, H10.out⟩
            case round =>
              rename World => wn
              obtain ⟨j, hj, rfl, HL⟩ := hrel
              obtain ⟨own11, s11, m11, bs11, hB, hs, hK⟩ := HL.out
              have o0 := hB.o.1.cell 0
              simp only [List.getElem?_toArray, List.getElem?_cons_zero, List.getElem?_cons_succ] at o0
              have hlo11 := hB.o.1.lt
              by_cases hlt : j < 4
              · obtain ⟨e0, e1, hs2⟩ := hs.next (by omega) (by omega)
                have hX := io_Next hB.u hB.mm (by decide) hs.ok e0
                rw [e1, hK j hlt] at hX
                obtain ⟨x1, h1⟩ : ∃ x, num m11 (j * 16) 4 = x := ⟨_, rfl⟩
                obtain ⟨x3, h3⟩ : ∃ x, num m11 (j * 16 + 8) 8 = x := ⟨_, rfl⟩
                rw [h1, h3] at hX
                have HXn := Lib.hid hX
                have HS := Lib.hid (And.intro hB (And.intro hs2 hK))
                clear hB hs hs2 hK hX HL h1 h3 e0 e1
                go_wp2_with fail
                ((with_reducible refine HXn.out.mono ?_); rintro e w12 ⟨rfl, own12, hS12, hU12, hM12⟩)
                have H12 := Lib.hid (fun o => ((HS.out.1.step (hS12.mono (fun x h => Or.inl h)) hU12 hM12).alloc o))
                clear hS12 hU12 hM12 HXn o0
                go_wp2
                exact ⟨⟨j + 1, by omega, by go_num, _, _, _, _, H12.out _, by rw [show 4 - (j + 1) = 4 - j - 1 from by omega]; exact HS.out.2.1, HS.out.2.2⟩, by simp [intOf]; omega⟩
              · obtain rfl : j = 4 := by omega
                rw [Nat.sub_self] at hs
                rw [show ((4 : Nat) : Int) = 4 from rfl]
                have HXn := Lib.hid (io_Next_none hB.u hB.mm hs.none_)
                have HS := Lib.hid hB
                clear hB hs hK HL H10
                go_wp2_with fail
                ((with_reducible refine HXn.out.mono ?_); rintro e w12 ⟨rfl, own12, hS12, hU12, hM12⟩)
                have H12 := Lib.hid (fun o => ((HS.out.step (hS12.mono (fun _ h => h.elim)) hU12 hM12).alloc o).upd)
                clear hS12 hU12 hM12 HXn o0 HS
                go_wp2_with fail
                ((with_reducible refine (awake07 _).mono ?_); rintro e w13 ⟨rfl, hU13⟩)
                have HE := Lib.hid ((H12.out _).trans' hU13 (fun _ _ e => e))
                clear hU13 H12
                go_wp2
                go_ret
                exact ⟨rfl, HE.out⟩
      · have hG0 : (G == 0) = false := by simpa using hG
        have hG1 : (G != 0) = true := by simp [hG]
        have hg0 := hs.g
        have hi0 := hs.i
        have h1 := io_Msg_good hB.u hB.mm d k hd8 hk32 (by rw [hg0]; exact hG)
        rw [hg0, hi0] at h1
        have HC1 := Lib.hid h1
        have H5 := Lib.hid (And.intro hB (And.intro hs hK0))
        clear hB hs h1 hg0 hi0
        by_cases hae : addr = 4276092928
        · subst hae
          rw [show ((4276092928 : Nat) : Int) = 4276092928 from rfl]
          by_cases hoe : k = other
          · subst hoe
            go_wp2_with fail
            ((with_reducible refine HC1.out.mono ?_); rintro e w6 ⟨rfl, own6, hS6, hU6, hM6⟩)
            have hB6 := H5.out.1.step (hS6.mono (fun _ h => h.elim)) hU6 hM6
            have hs6 := H5.out.2.1
            have hK6 := H5.out.2.2
            clear HC1 H5 hS6 hU6 hM6
            have v0 := hB6.wt.1.cell 0
            have v1 := hB6.wt.1.cell 1
            have u0 := hB6.o.1.cell 0
            simp only [List.getElem?_toArray, List.getElem?_cons_zero, List.getElem?_cons_succ] at v0 v1 u0
            have hl6 := hB6.wt.1.lt
            have hl6o := hB6.o.1.lt
            have hB7 := hB6.alloc (.cells #[.int .i64 G, .int .i64 I] 38)
            have h2 := hB7.bad hs6 hK6 (by decide) d 4276092936 k hd8 (by omega) (Or.inl (by decide))
            rw [show ((4276092936 : Nat) : Int) = 4276092936 from rfl] at h2
            have HC2 := Lib.hid h2
            clear hB6 hs6 hK6 hB7 h2
            go_wp2_with fail
            ((with_reducible refine HC2.out.mono ?_); rintro e w8 ⟨rfl, own8, s8, m8, hB8, hs8, hK8⟩)
            have u0 := hB8.o.1.cell 0
            simp only [List.getElem?_toArray, List.getElem?_cons_zero, List.getElem?_cons_succ] at u0
            have hl8 := hB8.o.1.lt
            have hB9 := hB8.alloc0
            have h3 := hB9.bad hs8 hK8 (by decide) d 4276092928 (k + 1) hd8 (by decide) (Or.inr (Or.inr (hs8.far _ _ (Or.inr (by omega)))))
            rw [show ((4276092928 : Nat) : Int) = 4276092928 from rfl, show ((k + 1 : Nat) : Int) = (k : Int) + 1 from rfl] at h3
            have HC3 := Lib.hid h3
            clear hB8 hs8 hK8 hB9 h3 HC2 v0 v1
            go_wp2_with fail
            generalize hx20 : w8.heap.size = x20 at *
            ((with_reducible refine HC3.out.mono ?_); rintro e w9 ⟨rfl, own9, s9, m9, hB9, hs9, hK9⟩)
            have u0 := hB9.o.1.cell 0
            simp only [List.getElem?_toArray, List.getElem?_cons_zero, List.getElem?_cons_succ] at u0
            have hl9 := hB9.o.1.lt
            have hB10 := hB9.alloc0
            have h4 := hB10.bad hs9 hK9 (by decide) dn 4276092928 k hdn8 (by decide) (Or.inr (Or.inr (hs9.far _ _ (Or.inl hdne))))
            rw [show ((4276092928 : Nat) : Int) = 4276092928 from rfl] at h4
            have HC4 := Lib.hid h4
            clear hB9 hs9 hK9 hB10 h4 HC3
            go_wp2_with fail
            generalize hx22 : w9.heap.size = x22 at *
            ((with_reducible refine HC4.out.mono ?_); rintro e w10 ⟨rfl, own10, s10, m10, hB10, hs10, hK10⟩)
            have a0 := (hB10.bs x20 (by simp)).1.cell 0
            have a1 := (hB10.bs x20 (by simp)).1.cell 1
            have b0 := (hB10.bs x22 (by simp)).1.cell 0
            have b1 := (hB10.bs x22 (by simp)).1.cell 1
            simp only [List.getElem?_toArray, List.getElem?_cons_zero, List.getElem?_cons_succ] at a0 a1 b0 b1
            have la := (hB10.bs x20 (by simp)).1.lt
            have lb := (hB10.bs x22 (by simp)).1.lt
            have H10 := Lib.hid (And.intro hB10.alloc0 (And.intro hs10 hK10))
            clear hB10 hs10 hK10 HC4 u0
            go_wp2
            go_loopw [26] (fun n wr => ∃ (j : Nat), j ≤ 3 ∧ n = .int .i64 (j : Int) ∧ Hid (∃ own' s m bs, MB w own' wr p q rp tp p2 xo xw G I s m bs ∧ MsOk s d k G I j (3 - j) ∧ KindsOk 3 m)) (fun n _ => 3 - (intOf n).toNat)
            case atStart => exact ⟨0, by omega, rfl, _, _, _, _, H10.out⟩
            case round =>
              rename World => wn
              obtain ⟨j, hj, rfl, HL⟩ := hrel
              obtain ⟨own11, s11, m11, bs11, hB, hs, hK⟩ := HL.out
              have o0 := hB.o.1.cell 0
              simp only [List.getElem?_toArray, List.getElem?_cons_zero, List.getElem?_cons_succ] at o0
              have hlo11 := hB.o.1.lt
              by_cases hlt : j < 3
              · obtain ⟨e0, e1, hs2⟩ := hs.next (by omega) (by omega)
                have hX := io_Next hB.u hB.mm (by decide) hs.ok e0
                rw [e1, hK j hlt] at hX
                obtain ⟨x1, h1⟩ : ∃ x, num m11 (j * 16) 4 = x := ⟨_, rfl⟩
                obtain ⟨x3, h3⟩ : ∃ x, num m11 (j * 16 + 8) 8 = x := ⟨_, rfl⟩
                rw [h1, h3] at hX
                have HXn := Lib.hid hX
                have HS := Lib.hid (And.intro hB (And.intro hs2 hK))
                clear hB hs hs2 hK hX HL h1 h3 e0 e1
                go_wp2_with fail
                ((with_reducible refine HXn.out.mono ?_); rintro e w12 ⟨rfl, own12, hS12, hU12, hM12⟩)
                have H12 := Lib.hid (fun o => ((HS.out.1.step (hS12.mono (fun x h => Or.inl h)) hU12 hM12).alloc o))
                clear hS12 hU12 hM12 HXn o0
                go_wp2
                exact ⟨⟨j + 1, by omega, by go_num, _, _, _, _, H12.out _, by rw [show 3 - (j + 1) = 3 - j - 1 from by omega]; exact HS.out.2.1, HS.out.2.2⟩, by simp [intOf]; omega⟩
              · obtain rfl : j = 3 := by omega
                rw [Nat.sub_self] at hs
                rw [show ((3 : Nat) : Int) = 3 from rfl]
                have HXn := Lib.hid (io_Next_none hB.u hB.mm hs.none_)
                have HS := Lib.hid hB
                clear hB hs hK HL H10
                go_wp2_with fail
                ((with_reducible refine HXn.out.mono ?_); rintro e w12 ⟨rfl, own12, hS12, hU12, hM12⟩)
                have H12 := Lib.hid (fun o => ((HS.out.step (hS12.mono (fun _ h => h.elim)) hU12 hM12).alloc o).upd)
                clear hS12 hU12 hM12 HXn o0 HS
                go_wp2_with fail
                ((with_reducible refine (awake07 _).mono ?_); rintro e w13 ⟨rfl, hU13⟩)
                have HE := Lib.hid ((H12.out _).trans' hU13 (fun _ _ e => e))
                clear hU13 H12
                go_wp2
                go_ret
                exact ⟨rfl, HE.out⟩
          · have hoe0 : ((other : Int) == (k : Int)) = false := by simp; omega
            go_wp2_with fail
            ((with_reducible refine HC1.out.mono ?_); rintro e w6 ⟨rfl, own6, hS6, hU6, hM6⟩)
            have hB6 := H5.out.1.step (hS6.mono (fun _ h => h.elim)) hU6 hM6
            have hs6 := H5.out.2.1
            have hK6 := H5.out.2.2
            clear HC1 H5 hS6 hU6 hM6
            have v0 := hB6.wt.1.cell 0
            have v1 := hB6.wt.1.cell 1
            have u0 := hB6.o.1.cell 0
            simp only [List.getElem?_toArray, List.getElem?_cons_zero, List.getElem?_cons_succ] at v0 v1 u0
            have hl6 := hB6.wt.1.lt
            have hl6o := hB6.o.1.lt
            have hB7 := hB6.alloc (.cells #[.int .i64 G, .int .i64 I] 38)
            have h2 := hB7.bad hs6 hK6 (by decide) d 4276092936 k hd8 (by omega) (Or.inl (by decide))
            rw [show ((4276092936 : Nat) : Int) = 4276092936 from rfl] at h2
            have HC2 := Lib.hid h2
            clear hB6 hs6 hK6 hB7 h2
            go_wp2_with fail
            ((with_reducible refine HC2.out.mono ?_); rintro e w8 ⟨rfl, own8, s8, m8, hB8, hs8, hK8⟩)
            have u0 := hB8.o.1.cell 0
            simp only [List.getElem?_toArray, List.getElem?_cons_zero, List.getElem?_cons_succ] at u0
            have hl8 := hB8.o.1.lt
            have hB9 := hB8.alloc0
            have h3 := hB9.bad hs8 hK8 (by decide) d 4276092928 other hd8 (by decide) (Or.inr (Or.inr (hs8.far _ _ (Or.inr (fun e => hoe e.symm)))))
            rw [show ((4276092928 : Nat) : Int) = 4276092928 from rfl] at h3
            have HC3 := Lib.hid h3
            clear hB8 hs8 hK8 hB9 h3 HC2 v0 v1
            go_wp2_with fail
            generalize hx20 : w8.heap.size = x20 at *
            ((with_reducible refine HC3.out.mono ?_); rintro e w9 ⟨rfl, own9, s9, m9, hB9, hs9, hK9⟩)
            have u0 := hB9.o.1.cell 0
            simp only [List.getElem?_toArray, List.getElem?_cons_zero, List.getElem?_cons_succ] at u0
            have hl9 := hB9.o.1.lt
            have hB10 := hB9.alloc0
            have h4 := hB10.bad hs9 hK9 (by decide) dn 4276092928 k hdn8 (by decide) (Or.inr (Or.inr (hs9.far _ _ (Or.inl hdne))))
            rw [show ((4276092928 : Nat) : Int) = 4276092928 from rfl] at h4
            have HC4 := Lib.hid h4
            clear hB9 hs9 hK9 hB10 h4 HC3
            go_wp2_with fail
            generalize hx22 : w9.heap.size = x22 at *
            ((with_reducible refine HC4.out.mono ?_); rintro e w10 ⟨rfl, own10, s10, m10, hB10, hs10, hK10⟩)
            have a0 := (hB10.bs x20 (by simp)).1.cell 0
            have a1 := (hB10.bs x20 (by simp)).1.cell 1
            have b0 := (hB10.bs x22 (by simp)).1.cell 0
            have b1 := (hB10.bs x22 (by simp)).1.cell 1
            simp only [List.getElem?_toArray, List.getElem?_cons_zero, List.getElem?_cons_succ] at a0 a1 b0 b1
            have la := (hB10.bs x20 (by simp)).1.lt
            have lb := (hB10.bs x22 (by simp)).1.lt
            have H10 := Lib.hid (And.intro hB10.alloc0 (And.intro hs10 hK10))
            clear hB10 hs10 hK10 HC4 u0
            go_wp2
            go_loopw [26] (fun n wr => ∃ (j : Nat), j ≤ 3 ∧ n = .int .i64 (j : Int) ∧ Hid (∃ own' s m bs, MB w own' wr p q rp tp p2 xo xw G I s m bs ∧ MsOk s d k G I j (3 - j) ∧ KindsOk 3 m)) (fun n _ => 3 - (intOf n).toNat)
            case atStart => exact ⟨0, by omega, rfl, _, _, _, _, H10.out⟩
            case round =>
              rename World => wn
              obtain ⟨j, hj, rfl, HL⟩ := hrel
              obtain ⟨own11, s11, m11, bs11, hB, hs, hK⟩ := HL.out
              have o0 := hB.o.1.cell 0
              simp only [List.getElem?_toArray, List.getElem?_cons_zero, List.getElem?_cons_succ] at o0
              have hlo11 := hB.o.1.lt
              by_cases hlt : j < 3
              · obtain ⟨e0, e1, hs2⟩ := hs.next (by omega) (by omega)
                have hX := io_Next hB.u hB.mm (by decide) hs.ok e0
                rw [e1, hK j hlt] at hX
                obtain ⟨x1, h1⟩ : ∃ x, num m11 (j * 16) 4 = x := ⟨_, rfl⟩
                obtain ⟨x3, h3⟩ : ∃ x, num m11 (j * 16 + 8) 8 = x := ⟨_, rfl⟩
                rw [h1, h3] at hX
                have HXn := Lib.hid hX
                have HS := Lib.hid (And.intro hB (And.intro hs2 hK))
                clear hB hs hs2 hK hX HL h1 h3 e0 e1
                go_wp2_with fail
                ((with_reducible refine HXn.out.mono ?_); rintro e w12 ⟨rfl, own12, hS12, hU12, hM12⟩)
                have H12 := Lib.hid (fun o => ((HS.out.1.step (hS12.mono (fun x h => Or.inl h)) hU12 hM12).alloc o))
                clear hS12 hU12 hM12 HXn o0
                go_wp2
                exact ⟨⟨j + 1, by omega, by go_num, _, _, _, _, H12.out _, by rw [show 3 - (j + 1) = 3 - j - 1 from by omega]; exact HS.out.2.1, HS.out.2.2⟩, by simp [intOf]; omega⟩
              · obtain rfl : j = 3 := by omega
                rw [Nat.sub_self] at hs
                rw [show ((3 : Nat) : Int) = 3 from rfl]
                have HXn := Lib.hid (io_Next_none hB.u hB.mm hs.none_)
                have HS := Lib.hid hB
                clear hB hs hK HL H10
                go_wp2_with fail
                ((with_reducible refine HXn.out.mono ?_); rintro e w12 ⟨rfl, own12, hS12, hU12, hM12⟩)
                have H12 := Lib.hid (fun o => ((HS.out.step (hS12.mono (fun _ h => h.elim)) hU12 hM12).alloc o).upd)
                clear hS12 hU12 hM12 HXn o0 HS
                go_wp2_with fail
                ((with_reducible refine (awake07 _).mono ?_); rintro e w13 ⟨rfl, hU13⟩)
                have HE := Lib.hid ((H12.out _).trans' hU13 (fun _ _ e => e))
                clear hU13 H12
                go_wp2
                go_ret
                exact ⟨rfl, HE.out⟩
        · have hae0 : ((addr : Int) == 4276092928) = false := by simp; omega
          by_cases hoe : k = other
          · subst hoe
            go_wp2_with fail
            ((with_reducible refine HC1.out.mono ?_); rintro e w6 ⟨rfl, own6, hS6, hU6, hM6⟩)
            have hB6 := H5.out.1.step (hS6.mono (fun _ h => h.elim)) hU6 hM6
            have hs6 := H5.out.2.1
            have hK6 := H5.out.2.2
            clear HC1 H5 hS6 hU6 hM6
            have v0 := hB6.wt.1.cell 0
            have v1 := hB6.wt.1.cell 1
            have u0 := hB6.o.1.cell 0
            simp only [List.getElem?_toArray, List.getElem?_cons_zero, List.getElem?_cons_succ] at v0 v1 u0
            have hl6 := hB6.wt.1.lt
            have hl6o := hB6.o.1.lt
            have hB7 := hB6.alloc (.cells #[.int .i64 G, .int .i64 I] 38)
            have h2 := hB7.bad hs6 hK6 (by decide) d addr k hd8 (by omega) (Or.inl hae)
            have HC2 := Lib.hid h2
            clear hB6 hs6 hK6 hB7 h2
            go_wp2_with fail
            ((with_reducible refine HC2.out.mono ?_); rintro e w8 ⟨rfl, own8, s8, m8, hB8, hs8, hK8⟩)
            have u0 := hB8.o.1.cell 0
            simp only [List.getElem?_toArray, List.getElem?_cons_zero, List.getElem?_cons_succ] at u0
            have hl8 := hB8.o.1.lt
            have hB9 := hB8.alloc0
            have h3 := hB9.bad hs8 hK8 (by decide) d 4276092928 (k + 1) hd8 (by decide) (Or.inr (Or.inr (hs8.far _ _ (Or.inr (by omega)))))
            rw [show ((4276092928 : Nat) : Int) = 4276092928 from rfl, show ((k + 1 : Nat) : Int) = (k : Int) + 1 from rfl] at h3
            have HC3 := Lib.hid h3
            clear hB8 hs8 hK8 hB9 h3 HC2 v0 v1
            go_wp2_with fail
            generalize hx20 : w8.heap.size = x20 at *
            ((with_reducible refine HC3.out.mono ?_); rintro e w9 ⟨rfl, own9, s9, m9, hB9, hs9, hK9⟩)
            have u0 := hB9.o.1.cell 0
            simp only [List.getElem?_toArray, List.getElem?_cons_zero, List.getElem?_cons_succ] at u0
            have hl9 := hB9.o.1.lt
            have hB10 := hB9.alloc0
            have h4 := hB10.bad hs9 hK9 (by decide) dn 4276092928 k hdn8 (by decide) (Or.inr (Or.inr (hs9.far _ _ (Or.inl hdne))))
            rw [show ((4276092928 : Nat) : Int) = 4276092928 from rfl] at h4
            have HC4 := Lib.hid h4
            clear hB9 hs9 hK9 hB10 h4 HC3
            go_wp2_with fail
            generalize hx22 : w9.heap.size = x22 at *
            ((with_reducible refine HC4.out.mono ?_); rintro e w10 ⟨rfl, own10, s10, m10, hB10, hs10, hK10⟩)
            have a0 := (hB10.bs x20 (by simp)).1.cell 0
            have a1 := (hB10.bs x20 (by simp)).1.cell 1
            have b0 := (hB10.bs x22 (by simp)).1.cell 0
            have b1 := (hB10.bs x22 (by simp)).1.cell 1
            simp only [List.getElem?_toArray, List.getElem?_cons_zero, List.getElem?_cons_succ] at a0 a1 b0 b1
            have la := (hB10.bs x20 (by simp)).1.lt
            have lb := (hB10.bs x22 (by simp)).1.lt
            have H10 := Lib.hid (And.intro hB10.alloc0 (And.intro hs10 hK10))
            clear hB10 hs10 hK10 HC4 u0
            go_wp2
            go_loopw [26] (fun n wr => ∃ (j : Nat), j ≤ 3 ∧ n = .int .i64 (j : Int) ∧ Hid (∃ own' s m bs, MB w own' wr p q rp tp p2 xo xw G I s m bs ∧ MsOk s d k G I j (3 - j) ∧ KindsOk 3 m)) (fun n _ => 3 - (intOf n).toNat)
            case atStart => exact ⟨0, by omega, rfl, _, _, _, _, H10.out⟩
            case round =>
              rename World => wn
              obtain ⟨j, hj, rfl, HL⟩ := hrel
              obtain ⟨own11, s11, m11, bs11, hB, hs, hK⟩ := HL.out
              have o0 := hB.o.1.cell 0
              simp only [List.getElem?_toArray, List.getElem?_cons_zero, List.getElem?_cons_succ] at o0
              have hlo11 := hB.o.1.lt
              by_cases hlt : j < 3
              · obtain ⟨e0, e1, hs2⟩ := hs.next (by omega) (by omega)
                have hX := io_Next hB.u hB.mm (by decide) hs.ok e0
                rw [e1, hK j hlt] at hX
                obtain ⟨x1, h1⟩ : ∃ x, num m11 (j * 16) 4 = x := ⟨_, rfl⟩
                obtain ⟨x3, h3⟩ : ∃ x, num m11 (j * 16 + 8) 8 = x := ⟨_, rfl⟩
                rw [h1, h3] at hX
                have HXn := Lib.hid hX
                have HS := Lib.hid (And.intro hB (And.intro hs2 hK))
                clear hB hs hs2 hK hX HL h1 h3 e0 e1
                go_wp2_with fail
                ((with_reducible refine HXn.out.mono ?_); rintro e w12 ⟨rfl, own12, hS12, hU12, hM12⟩)
                have H12 := Lib.hid (fun o => ((HS.out.1.step (hS12.mono (fun x h => Or.inl h)) hU12 hM12).alloc o))
                clear hS12 hU12 hM12 HXn o0
                go_wp2
                exact ⟨⟨j + 1, by omega, by go_num, _, _, _, _, H12.out _, by rw [show 3 - (j + 1) = 3 - j - 1 from by omega]; exact HS.out.2.1, HS.out.2.2⟩, by simp [intOf]; omega⟩
              · obtain rfl : j = 3 := by omega
                rw [Nat.sub_self] at hs
                rw [show ((3 : Nat) : Int) = 3 from rfl]
                have HXn := Lib.hid (io_Next_none hB.u hB.mm hs.none_)
                have HS := Lib.hid hB
                clear hB hs hK HL H10
                go_wp2_with fail
                ((with_reducible refine HXn.out.mono ?_); rintro e w12 ⟨rfl, own12, hS12, hU12, hM12⟩)
                have H12 := Lib.hid (fun o => ((HS.out.step (hS12.mono (fun _ h => h.elim)) hU12 hM12).alloc o).upd)
                clear hS12 hU12 hM12 HXn o0 HS
                go_wp2_with fail
                ((with_reducible refine (awake07 _).mono ?_); rintro e w13 ⟨rfl, hU13⟩)
                have HE := Lib.hid ((H12.out _).trans' hU13 (fun _ _ e => e))
                clear hU13 H12
                go_wp2
                go_ret
                exact ⟨rfl, HE.out⟩
          · have hoe0 : ((other : Int) == (k : Int)) = false := by simp; omega
            go_wp2_with fail
            ((with_reducible refine HC1.out.mono ?_); rintro e w6 ⟨rfl, own6, hS6, hU6, hM6⟩)
            have hB6 := H5.out.1.step (hS6.mono (fun _ h => h.elim)) hU6 hM6
            have hs6 := H5.out.2.1
            have hK6 := H5.out.2.2
            clear HC1 H5 hS6 hU6 hM6
            have v0 := hB6.wt.1.cell 0
            have v1 := hB6.wt.1.cell 1
            have u0 := hB6.o.1.cell 0
            simp only [List.getElem?_toArray, List.getElem?_cons_zero, List.getElem?_cons_succ] at v0 v1 u0
            have hl6 := hB6.wt.1.lt
            have hl6o := hB6.o.1.lt
            have hB7 := hB6.alloc (.cells #[.int .i64 G, .int .i64 I] 38)
            have h2 := hB7.bad hs6 hK6 (by decide) d addr k hd8 (by omega) (Or.inl hae)
            have HC2 := Lib.hid h2
            clear hB6 hs6 hK6 hB7 h2
            go_wp2_with fail
            ((with_reducible refine HC2.out.mono ?_); rintro e w8 ⟨rfl, own8, s8, m8, hB8, hs8, hK8⟩)
            have u0 := hB8.o.1.cell 0
            simp only [List.getElem?_toArray, List.getElem?_cons_zero, List.getElem?_cons_succ] at u0
            have hl8 := hB8.o.1.lt
            have hB9 := hB8.alloc0
            have h3 := hB9.bad hs8 hK8 (by decide) d 4276092928 other hd8 (by decide) (Or.inr (Or.inr (hs8.far _ _ (Or.inr (fun e => hoe e.symm)))))
            rw [show ((4276092928 : Nat) : Int) = 4276092928 from rfl] at h3
            have HC3 := Lib.hid h3
            clear hB8 hs8 hK8 hB9 h3 HC2 v0 v1
            go_wp2_with fail
            generalize hx20 : w8.heap.size = x20 at *
            ((with_reducible refine HC3.out.mono ?_); rintro e w9 ⟨rfl, own9, s9, m9, hB9, hs9, hK9⟩)
            have u0 := hB9.o.1.cell 0
            simp only [List.getElem?_toArray, List.getElem?_cons_zero, List.getElem?_cons_succ] at u0
            have hl9 := hB9.o.1.lt
            have hB10 := hB9.alloc0
            have h4 := hB10.bad hs9 hK9 (by decide) dn 4276092928 k hdn8 (by decide) (Or.inr (Or.inr (hs9.far _ _ (Or.inl hdne))))
            rw [show ((4276092928 : Nat) : Int) = 4276092928 from rfl] at h4
            have HC4 := Lib.hid h4
            clear hB9 hs9 hK9 hB10 h4 HC3
            go_wp2_with fail
            generalize hx22 : w9.heap.size = x22 at *
            ((with_reducible refine HC4.out.mono ?_); rintro e w10 ⟨rfl, own10, s10, m10, hB10, hs10, hK10⟩)
            have a0 := (hB10.bs x20 (by simp)).1.cell 0
            have a1 := (hB10.bs x20 (by simp)).1.cell 1
            have b0 := (hB10.bs x22 (by simp)).1.cell 0
            have b1 := (hB10.bs x22 (by simp)).1.cell 1
            simp only [List.getElem?_toArray, List.getElem?_cons_zero, List.getElem?_cons_succ] at a0 a1 b0 b1
            have la := (hB10.bs x20 (by simp)).1.lt
            have lb := (hB10.bs x22 (by simp)).1.lt
            have H10 := Lib.hid (And.intro hB10.alloc0 (And.intro hs10 hK10))
            clear hB10 hs10 hK10 HC4 u0
            go_wp2
            go_loopw [26] (fun n wr => ∃ (j : Nat), j ≤ 3 ∧ n = .int .i64 (j : Int) ∧ Hid (∃ own' s m bs, MB w own' wr p q rp tp p2 xo xw G I s m bs ∧ MsOk s d k G I j (3 - j) ∧ KindsOk 3 m)) (fun n _ => 3 - (intOf n).toNat)
            case atStart => exact ⟨0, by omega, rfl, _, _, _, _, H10.out⟩
            case round =>
              rename World => wn
              obtain ⟨j, hj, rfl, HL⟩ := hrel
              obtain ⟨own11, s11, m11, bs11, hB, hs, hK⟩ := HL.out
              have o0 := hB.o.1.cell 0
              simp only [List.getElem?_toArray, List.getElem?_cons_zero, List.getElem?_cons_succ] at o0
              have hlo11 := hB.o.1.lt
              by_cases hlt : j < 3
              · obtain ⟨e0, e1, hs2⟩ := hs.next (by omega) (by omega)
                have hX := io_Next hB.u hB.mm (by decide) hs.ok e0
                rw [e1, hK j hlt] at hX
                obtain ⟨x1, h1⟩ : ∃ x, num m11 (j * 16) 4 = x := ⟨_, rfl⟩
                obtain ⟨x3, h3⟩ : ∃ x, num m11 (j * 16 + 8) 8 = x := ⟨_, rfl⟩
                rw [h1, h3] at hX
                have HXn := Lib.hid hX
                have HS := Lib.hid (And.intro hB (And.intro hs2 hK))
                clear hB hs hs2 hK hX HL h1 h3 e0 e1
                go_wp2_with fail
                ((with_reducible refine HXn.out.mono ?_); rintro e w12 ⟨rfl, own12, hS12, hU12, hM12⟩)
                have H12 := Lib.hid (fun o => ((HS.out.1.step (hS12.mono (fun x h => Or.inl h)) hU12 hM12).alloc o))
                clear hS12 hU12 hM12 HXn o0
                go_wp2
                exact ⟨⟨j + 1, by omega, by go_num, _, _, _, _, H12.out _, by rw [show 3 - (j + 1) = 3 - j - 1 from by omega]; exact HS.out.2.1, HS.out.2.2⟩, by simp [intOf]; omega⟩
              · obtain rfl : j = 3 := by omega
                rw [Nat.sub_self] at hs
                rw [show ((3 : Nat) : Int) = 3 from rfl]
                have HXn := Lib.hid (io_Next_none hB.u hB.mm hs.none_)
                have HS := Lib.hid hB
                clear hB hs hK HL H10
                go_wp2_with fail
                ((with_reducible refine HXn.out.mono ?_); rintro e w12 ⟨rfl, own12, hS12, hU12, hM12⟩)
                have H12 := Lib.hid (fun o => ((HS.out.step (hS12.mono (fun _ h => h.elim)) hU12 hM12).alloc o).upd)
                clear hS12 hU12 hM12 HXn o0 HS
                go_wp2_with fail
                ((with_reducible refine (awake07 _).mono ?_); rintro e w13 ⟨rfl, hU13⟩)
                have HE := Lib.hid ((H12.out _).trans' hU13 (fun _ _ e => e))
                clear hU13 H12
                go_wp2
                go_ret
                exact ⟨rfl, HE.out⟩
end Go.Proofs.Ytlgcplekcmocbaa
