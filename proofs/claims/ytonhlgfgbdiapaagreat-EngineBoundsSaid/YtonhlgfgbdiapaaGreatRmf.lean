import Derived.Test.YtonhlgfgbdiapaaGreatRmd
import Derived.Test.YtonhlgfgbdiapaaGreatRme
import Derived.Test.YtonhlgfgbdiapaaGreatMref5
/- EngineBounds: the walk. -/
namespace Go.Proofs.YtonhlgfgbdiapaaGreat
set_option linter.unusedVariables false
set_option linter.unusedSimpArgs false
open Go.RowKit
set_option maxRecDepth 100000
section
variable {w0 w w' : World} {own own' : Nat → Nat} {e p rp tp xo pc q p2 : Nat} {s : Eg} {a b : Uv}
end
set_option maxHeartbeats 8000000 in
theorem bounds_calls (w : World) (v : Value) (cs : List (Int × Nat)) (hv : CellsAt w v cs) (hlen : cs.length * 16 ≤ 140737488351232) (hb : ∀ x ∈ cs, -9223372036854775808 ≤ x.1 ∧ x.1 ≤ 9223372036854775807 ∧ x.2 < 18446744073709551616)
    (root0 : Nat) (hr0 : root0 < 18446744073709551616) (A : Option Addr) (cap : Nat) (L : List Op8) (hL : Ops8At w (.slice A L.length cap) L) (hLb : ∀ o ∈ L, Op8B o) (hLl : L.length ≤ 9223372036854775807) :
    Calls Tryz.prog 3 #[v, .int .u64 (root0 : Int), .slice A L.length cap] w fun x w' => x = .returned (.bool true) ∧ Upd (fun _ => False) w w' := by
  obtain ⟨A0, cap0, rfl, hcells⟩ := hv
  have HV := Lib.hid (And.intro hcells (And.intro hb hlen))
  have HL := Lib.hid (And.intro hL hLb)
  have HT := Lib.hid cell_parts
  obtain ⟨root, hroot⟩ : ∃ root, root0 % 7 = root := ⟨_, rfl⟩
  have hrI : (root0 : Int) % 7 = (root : Int) := by omega
  have hr7 : root < 7 := by omega
  obtain ⟨LM, hLM⟩ : ∃ LM, cs.map lowC = LM := ⟨_, rfl⟩
  have hlm : LM.length = cs.length := by rw [← hLM]; simp
  have HLM := Lib.hid hLM
  clear hcells hb hL hLb hLM
  go_enter Tryz.func3, Tryz.ntmps3
  go_wp2
  have H0 := Lib.hid (show ∃ own', Step (fun x => x = 0) (fun _ => 1) w own' w ∧ Rw 26 2 own' 0 w (.slice none 0 0) 0 (cellsC (LM.take 0)) from ⟨_, Step.refl _ _ _, Rw.nil _ _ _ _ _⟩)
  go_loopw [7, 8] (fun sl i wr => ∃ (k : Nat), i = .int .i64 (k : Int) ∧ k ≤ cs.length ∧ Hid (∃ own', Step (fun x => x = 0) (fun _ => 1) w own' wr ∧ Rw 26 2 own' 0 wr sl k (cellsC (LM.take k)))) (fun _ i _ => cs.length - (intOf i).toNat)
  case atStart => exact ⟨0, rfl, by omega, H0.out⟩
  case round =>
    rename World => wr
    obtain ⟨k, rfl, hk, HLo⟩ := hrel
    clear H0
    obtain ⟨own2, hS2, hO2⟩ := HLo.out
    have hU2 : Upd (fun _ => False) w wr := hS2.upd.mono (fun i hi e => absurd e (by decide))
    by_cases hlt : k < cs.length
    · have hlt' : (k : Int) < (cs.length : Int) := by omega
      obtain ⟨g, o, rfl, hg, hcell⟩ := HV.out.1 (by omega)
      have hget : cs[k]? = some cs[k] := List.getElem?_eq_getElem hlt
      have hmem : cs[k] ∈ cs := List.getElem_mem hlt
      have htk : LM.take (k + 1) = LM.take k ++ [lowC cs[k]] := by rw [List.take_add_one, ← HLM.out, List.getElem?_map, hget]; rfl
      obtain ⟨b1, b2, b3⟩ := HV.out.2.1 _ hmem
      obtain ⟨q1, q2⟩ := hcell _ _ hget
      generalize cs[k] = x at *
      obtain ⟨xa, xv⟩ := x
      simp only [] at b1 b2 b3 q1 q2
      have c1' := (hU2.cell (p := ⟨g, o + k * 2, none⟩) (by show g < w.heap.size; omega) (fun h => h)).trans q1
      have c2' := (hU2.cell (p := ⟨g, o + k * 2 + 1, none⟩) (by show g < w.heap.size; omega) (fun h => h)).trans q2
      obtain ⟨qq, hqq⟩ : ∃ qq, xa % 3584 = qq := ⟨_, rfl⟩
      have P1 := fun w => place_calls xa 3584 w b1 b2 (by decide) (by decide)
      rw [hqq] at P1
      have HP1 := Lib.hid P1
      have hcs : cellsC (LM.take (k + 1)) = cellsC (LM.take k) ++ [.int .i64 qq, .int .u64 (lowv xv : Int)] := by rw [htk, cellsC_snoc, ← hqq]; rfl
      have hcl : True := trivial
      have hl10 : (k + 1) * 16 ≤ 140737488351232 := by
        have := HV.out.2.2
        omega
      have HC := Lib.hid (And.intro hcs (And.intro hcl hl10))
      obtain ⟨i, z, hi, hz, hs, hby, hzs⟩ := HT.out
      have HI := Lib.hid (And.intro hi (And.intro hz (And.intro hs (And.intro hby hzs))))
      obtain ⟨A5, cap5, hv5, _⟩ := hO2.form
      subst hv5
      have H2 := Lib.hid (And.intro hS2 hO2)
      have hA10 := and10_u xv b3
      have hA44 := and44_u xv b3
      have hAN := andNot_mid xv b3
      have hlw : lowv xv = if xv &&& 10 = 0 ∧ 6 < xv / 1024 % 17592186044416 then xv - xv / 1024 % 17592186044416 * 1024 else xv := rfl
      obtain ⟨N, hN⟩ : ∃ N, lowv xv = N := ⟨_, rfl⟩
      rw [hN] at HC hlw
      obtain ⟨pp, hpp⟩ : ∃ pp, xv / 1024 % 17592186044416 = pp := ⟨_, rfl⟩
      rw [hpp] at hA44 hAN hlw
      have hppl : pp < 17592186044416 := by omega
      clear hS2 hO2 hi hz hs hby hzs hcs hcl hl10 HLo hU2 htk hget hmem hcell hqq P1 hN hpp q1 q2 b1 b2
      rcases (show (xv &&& 10 = 0 ∧ 6 < pp) ∨ (xv &&& 10 = 0 ∧ ¬ 6 < pp) ∨ ¬ xv &&& 10 = 0 by omega) with ⟨h1, h2⟩ | ⟨h1, h2⟩ | h1
      · rw [decide_eq_true h1] at hA10
        rw [if_pos ⟨h1, h2⟩] at hlw
        rw [← hlw] at hAN
        have h6 : decide ((6 : Int) < (pp : Int)) = true := by simp; omega
        clear hlw h1
        go_wp2_with fail
        ((with_reducible refine (HP1.out _).mono ?_); rintro y wz ⟨rfl, rfl⟩)
        clear HP1
        go_wp2_with ((with_reducible show wpList _ _ _ ((⟨some 61, _, _, _, _, _⟩ : Oper) :: _) _ _); refine wpList_append_rw rfl (.tmp 51) (.tmp 60) _ rfl 26 i _ 2 16 Tryz.underlying22 HI.out.1 HI.out.2.1 HI.out.2.2.1 HI.out.2.2.2.1 HI.out.2.2.2.2 (by omega) (own := own2) (d := 0) (.slice A5 k cap5) k _ rfl (H2.out.2.step (step_allocS own2 wr _) (fun h => h)) (wr.heap.size + 1) (some ⟨wr.heap.size, 0, none⟩) 1 1 [.int .i64 qq, .int .u64 (N : Int)] rfl ⟨rfl, fun _ => ⟨_, rfl, Nat.lt_succ_self _, cells_new2 _ _ _ _⟩⟩ (by simp [Value.oneCell']) (by unfold maxLen; have := HC.out.2.2; omega) (by have := HC.out.2.2; omega) ?_)
        intro v2 w5 hst5 hrow5
        have hst6 := H2.out.1.trans (((step_allocS own2 wr _).mono (C' := (· = 0)) (fun _ h => h.elim)).trans hst5)
        rw [← HC.out.1] at hrow5
        have H6 := Lib.hid (And.intro hst6 hrow5)
        clear hst5 hst6 hrow5 H2
        go_wp2
        exact ⟨⟨k + 1, by go_num, by omega, _, H6.out⟩, by simp [intOf]; omega⟩
      · rw [decide_eq_true h1] at hA10
        rw [if_neg (fun h => h2 h.2)] at hlw
        subst hlw
        have h6 : decide ((6 : Int) < (pp : Int)) = false := by simp; omega
        clear h1
        go_wp2_with fail
        ((with_reducible refine (HP1.out _).mono ?_); rintro y wz ⟨rfl, rfl⟩)
        clear HP1
        go_wp2_with ((with_reducible show wpList _ _ _ ((⟨some 61, _, _, _, _, _⟩ : Oper) :: _) _ _); refine wpList_append_rw rfl (.tmp 51) (.tmp 60) _ rfl 26 i _ 2 16 Tryz.underlying22 HI.out.1 HI.out.2.1 HI.out.2.2.1 HI.out.2.2.2.1 HI.out.2.2.2.2 (by omega) (own := own2) (d := 0) (.slice A5 k cap5) k _ rfl (H2.out.2.step (step_allocS own2 wr _) (fun h => h)) (wr.heap.size + 1) (some ⟨wr.heap.size, 0, none⟩) 1 1 [.int .i64 qq, .int .u64 (N : Int)] rfl ⟨rfl, fun _ => ⟨_, rfl, Nat.lt_succ_self _, cells_new2 _ _ _ _⟩⟩ (by simp [Value.oneCell']) (by unfold maxLen; have := HC.out.2.2; omega) (by have := HC.out.2.2; omega) ?_)
        intro v2 w5 hst5 hrow5
        have hst6 := H2.out.1.trans (((step_allocS own2 wr _).mono (C' := (· = 0)) (fun _ h => h.elim)).trans hst5)
        rw [← HC.out.1] at hrow5
        have H6 := Lib.hid (And.intro hst6 hrow5)
        clear hst5 hst6 hrow5 H2
        go_wp2
        exact ⟨⟨k + 1, by go_num, by omega, _, H6.out⟩, by simp [intOf]; omega⟩
      · rw [decide_eq_false h1] at hA10
        rw [if_neg (fun h => h1 h.1)] at hlw
        subst hlw
        clear h1
        go_wp2_with fail
        ((with_reducible refine (HP1.out _).mono ?_); rintro y wz ⟨rfl, rfl⟩)
        clear HP1
        go_wp2_with ((with_reducible show wpList _ _ _ ((⟨some 61, _, _, _, _, _⟩ : Oper) :: _) _ _); refine wpList_append_rw rfl (.tmp 51) (.tmp 60) _ rfl 26 i _ 2 16 Tryz.underlying22 HI.out.1 HI.out.2.1 HI.out.2.2.1 HI.out.2.2.2.1 HI.out.2.2.2.2 (by omega) (own := own2) (d := 0) (.slice A5 k cap5) k _ rfl (H2.out.2.step (step_allocS own2 wr _) (fun h => h)) (wr.heap.size + 1) (some ⟨wr.heap.size, 0, none⟩) 1 1 [.int .i64 qq, .int .u64 (N : Int)] rfl ⟨rfl, fun _ => ⟨_, rfl, Nat.lt_succ_self _, cells_new2 _ _ _ _⟩⟩ (by simp [Value.oneCell']) (by unfold maxLen; have := HC.out.2.2; omega) (by have := HC.out.2.2; omega) ?_)
        intro v2 w5 hst5 hrow5
        have hst6 := H2.out.1.trans (((step_allocS own2 wr _).mono (C' := (· = 0)) (fun _ h => h.elim)).trans hst5)
        rw [← HC.out.1] at hrow5
        have H6 := Lib.hid (And.intro hst6 hrow5)
        clear hst5 hst6 hrow5 H2
        go_wp2
        exact ⟨⟨k + 1, by go_num, by omega, _, H6.out⟩, by simp [intOf]; omega⟩
    · obtain rfl : k = cs.length := by omega
      rw [← hlm, List.take_length] at hO2
      obtain ⟨A5, cap5, hv5, _⟩ := hO2.form
      subst hv5
      have hcells := CellsAt.of_rw hO2
      have hLC := HLM.out
      have hlc := hlm
      have hlow : LowT (cellsM 8 (fun _ => 0) LM) := by rw [← hLC]; exact low_cells cs _ low_zero (fun x hx => (HV.out.2.1 x hx).2.2)
      have hlb : ∀ x ∈ LM, -9223372036854775808 ≤ x.1 ∧ x.1 ≤ 9223372036854775807 ∧ x.2 < 18446744073709551616 := by
        intro x hx
        rw [← hLC] at hx
        obtain ⟨y, hy, rfl⟩ := List.mem_map.1 hx
        have h0 := Int.emod_nonneg y.1 (show (3584 : Int) ≠ 0 by decide)
        have h1 := Int.emod_lt_of_pos y.1 (show (0 : Int) < 3584 by decide)
        have h2 := lowv_lt (HV.out.2.1 y hy).2.2
        exact ⟨by show _ ≤ y.1 % 3584; omega, by show y.1 % 3584 ≤ _; omega, h2⟩
      have hN := law07_NewC 0 (fun _ => 0) 8 (by decide) wr _ LM hcells (by have := HV.out.2.2; omega) hlb
      obtain ⟨M0, hM0⟩ : ∃ M0, cellsM 8 (fun _ => 0) LM = M0 := ⟨_, rfl⟩
      rw [hM0, show ((8 : Nat) : Int) = 8 from rfl] at hN
      rw [hM0] at hlow
      have HU := Lib.hid (And.intro hU2 hlow)
      rw [hlc] at hN
      have HN := Lib.hid hN
      clear hcells hlow hN hU2 hM0 hS2 hO2 HLo HT hlb hLC hlt HV HLM hlc
      go_wp2_with fail
      ((with_reducible refine HN.out.mono ?_); rintro x w1 ⟨p, q, rp, tp, p2, t2, own1, rfl, hS1, hO1⟩)
      have hS2 : Step (fun _ => False) own1 w1 (ext own1 w1 50) (w1.alloc (.cells #[.pointer (some ⟨p, 0, none⟩), .pointer (some ⟨q, 0, none⟩), .pointer (some ⟨rp, 0, none⟩), .pointer (some ⟨p2, 0, none⟩)] 36)) := ⟨(Upd.refl _ _).alloc _, fun b hb => ext_old _ _ _ hb⟩
      have hO2 := hO1.step hS2 (fun x h => h.elim)
      have hX2 : Blk (w1.alloc (.cells #[.pointer (some ⟨p, 0, none⟩), .pointer (some ⟨q, 0, none⟩), .pointer (some ⟨rp, 0, none⟩), .pointer (some ⟨p2, 0, none⟩)] 36)) w1.heap.size 36 #[.pointer (some ⟨p, 0, none⟩), .pointer (some ⟨q, 0, none⟩), .pointer (some ⟨rp, 0, none⟩), .pointer (some ⟨p2, 0, none⟩)] ∧ ext own1 w1 50 w1.heap.size = 50 := ⟨Blk.new w1 _ _, ext_new _ _ _ (Nat.le_refl _)⟩
      have hRg := io_RingX hO2.u hO2.mm 28672 (by decide)
      rw [show ringOk 8 28672 = true from by decide, if_pos rfl, show ((28672 : Nat) : Int) = 28672 from rfl] at hRg
      have HRg := Lib.hid hRg
      have x0 := hX2.1.cell 0
      have x1 := hX2.1.cell 1
      have x2 := hX2.1.cell 2
      simp only [List.getElem?_toArray, List.getElem?_cons_zero, List.getElem?_cons_succ] at x0 x1 x2
      have H2 := Lib.hid (And.intro (hS1.trans hS2) (And.intro hO2.mm (And.intro hO2.t hX2)))
      clear hS1 hO1 hS2 hO2 hX2 hRg HN
      go_wp2_with fail
      generalize w1.alloc (.cells #[.pointer (some ⟨p, 0, none⟩), .pointer (some ⟨q, 0, none⟩), .pointer (some ⟨rp, 0, none⟩), .pointer (some ⟨p2, 0, none⟩)] 36) = w2 at *
      generalize ext own1 w1 50 = own2 at *
      generalize w1.heap.size = xo at *
      ((with_reducible refine HRg.out.mono ?_); rintro x w3 ⟨rfl, hS3, hU3⟩)
      have hX3 := hS3.blk H2.out.2.2.2.1 H2.out.2.2.2.2 (by decide)
      have hmm3 := H2.out.2.1.step hS3 (by decide)
      have ht3 := H2.out.2.2.1.step hS3 (by decide) (by decide)
      have HSt := Lib.hid (io_SetX hU3 3 root)
      have x0' := hX3.1.cell 0
      simp only [List.getElem?_toArray, List.getElem?_cons_zero, List.getElem?_cons_succ] at x0'
      have H3 := Lib.hid (And.intro ((H2.out.1.mono (C' := (· ≠ 0)) (fun _ h => h.elim)).trans (hS3.mono (by rintro x rfl; decide))) (And.intro hmm3 (And.intro ht3 hX3)))
      clear HRg hS3 hU3 hX3 hmm3 ht3 H2 x0 x1 x2
      go_wp2_with fail
      ((with_reducible refine HSt.out.mono ?_); rintro x w4 ⟨rfl, hS4, hU4⟩)
      have hX4 := hS4.blk H3.out.2.2.2.1 H3.out.2.2.2.2 (by decide)
      have hmm4 := H3.out.2.1.step hS4 (by decide)
      have ht4 := H3.out.2.2.1.step hS4 (by decide) (by decide)
      have HEn := Lib.hid (eng_New own2 60 p rp 3 (by decide) w4)
      have y0 := hX4.1.cell 0
      have y1 := hX4.1.cell 2
      simp only [List.getElem?_toArray, List.getElem?_cons_zero, List.getElem?_cons_succ] at y0 y1
      have H4 := Lib.hid (And.intro (H3.out.1.trans (hS4.mono (by rintro x rfl; decide))) (And.intro (show PAu own2 w4 p rp tp 8 ⟨sB root, M0, []⟩ from ⟨hU4, hmm4, ht4⟩) hX4))
      clear HSt hS4 hU4 hX4 hmm4 ht4 H3 x0'
      go_wp2_with fail
      ((with_reducible refine HEn.out.mono ?_); rintro x w5 ⟨e, own5, rfl, hS5, hE5⟩)
      have hX5 := hS5.blk H4.out.2.2.1 H4.out.2.2.2 (fun h => h)
      have hB5 : PB wr own5 w5 e p rp tp 8 3 eg0 ⟨sB root, M0, []⟩ := ⟨H4.out.1.trans (hS5.mono (fun _ h => h.elim)), PA.step H4.out.2.1 hS5 (fun x h => h.elim), sB_pu root (by omega) M0, hE5, EgOk.init⟩
      have H5 := Lib.hid (show ∃ own' s, PB wr own' w5 e p rp tp 8 3 s ⟨sB root, M0, []⟩ ∧ s.cp = 0 ∧ (Blk w5 xo 36 #[.pointer (some ⟨p, 0, none⟩), .pointer (some ⟨q, 0, none⟩), .pointer (some ⟨rp, 0, none⟩), .pointer (some ⟨p2, 0, none⟩)] ∧ own' xo = 50) from ⟨own5, eg0, hB5, rfl, hX5⟩)
      clear HEn hS5 hE5 hX5 hB5 H4 y0 y1
      go_wp2
      go_loopw [14] (fun i wq => ∃ (j : Nat), i = .int .i64 (j : Int) ∧ j ≤ L.length ∧ Hid (∃ own' s, PB wr own' wq e p rp tp 8 3 s ⟨sB root, M0, []⟩ ∧ s.cp = 0 ∧ (Blk wq xo 36 #[.pointer (some ⟨p, 0, none⟩), .pointer (some ⟨q, 0, none⟩), .pointer (some ⟨rp, 0, none⟩), .pointer (some ⟨p2, 0, none⟩)] ∧ own' xo = 50))) (fun i _ => L.length - (intOf i).toNat)
      case atStart => exact ⟨0, rfl, by omega, H5.out⟩
      case round =>
        rename World => wq
        obtain ⟨j, rfl, hj, HR⟩ := hrel
        clear H5
        obtain ⟨own7, s, hB, hcp, hO⟩ := HR.out
        by_cases hlt : j < L.length
        · have hlt' : (j : Int) < (L.length : Int) := by omega
          have hget : L[j]? = some L[j] := List.getElem?_eq_getElem hlt
          have hob := HL.out.2 _ (List.getElem_mem hlt)
          obtain ⟨g, o, rfl, hg, c0, c1, c2, c3, _⟩ := (HL.out.1.upd (HU.out.1.trans' hB.upd (fun _ _ h => h))).cells hget
          generalize L[j] = x at *
          obtain ⟨xk, xz, xo', xv, xx⟩ := x
          obtain ⟨hbk, hbz, hbo, hbv, hbx⟩ := hob
          simp only [] at c0 c1 c2 c3 hbk hbz hbo hbv hbx
          have hBd := hB.none_ ((Step.refl (fun _ => False) _ _).drew)
          have hOd := ((Step.refl (fun _ => False) own7 wq).drew).blk hO.1 hO.2 (fun h => h)
          have hc9 := writeE_cp hcp xo' xz xv
          have HW := Lib.hid (hBd.write xo' hbo xz hbz xv hbv)
          have H7 := Lib.hid (And.intro hOd hc9)
          clear hB hBd hO hOd hget hcp hc9 HR c0 hbx hbk
          go_wp2_with fail
          refine wpE_region (S := fun (W' : World) => W'.cell? ⟨g, o + j * 12 + 1, none⟩ = some (.int .i64 xz) ∧ W'.cell? ⟨g, o + j * 12 + 2, none⟩ = some (.int .u64 (xo' : Int)) ∧ W'.cell? ⟨g, o + j * 12 + 3, none⟩ = some (.int .u64 (xv : Int))) (s := 16) (by kernel_rfl) ?_
          have hS : (fun (W' : World) => W'.cell? ⟨g, o + j * 12 + 1, none⟩ = some (.int .i64 xz) ∧ W'.cell? ⟨g, o + j * 12 + 2, none⟩ = some (.int .u64 (xo' : Int)) ∧ W'.cell? ⟨g, o + j * 12 + 3, none⟩ = some (.int .u64 (xv : Int))) _ := ⟨c1, c2, c3⟩
          refine wpE_take (i := 0) (oi := { dst := some 107, op := Go.Op.move (Go.Operand.tmp 12), type := 42, pos := "law.go:147", after := #[], guard := none }) (v := ?_) rfl (by kernel_rfl) (fun _ _ _ h => h) (Or.inl ⟨by rfl, fun W hW => ?_⟩) hS ?_
          rotate_left
          · obtain ⟨hw1, hw2, hw3⟩ := hW; go_simp; (try go_bits); (try rw [if_pos (by omega)]); (try with_reducible rfl)
          (try simp only [Act.put, List.setIfInBounds_toArray, List.set_cons_succ, List.set_cons_zero])
          refine wpE_take (i := 1) (oi := { dst := some 108, op := Go.Op.move (Go.Operand.tmp 2), type := 24, pos := "law.go:147", after := #[], guard := none }) (v := ?_) rfl (by kernel_rfl) (fun _ _ _ h => h) (Or.inl ⟨by rfl, fun W hW => ?_⟩) hS ?_
          rotate_left
          · obtain ⟨hw1, hw2, hw3⟩ := hW; go_simp; (try go_bits); (try rw [if_pos (by omega)]); (try with_reducible rfl)
          (try simp only [Act.put, List.setIfInBounds_toArray, List.set_cons_succ, List.set_cons_zero])
          refine wpE_take (i := 2) (oi := { dst := some 109, op := Go.Op.move (Go.Operand.tmp 14), type := 3, pos := "law.go:147", after := #[], guard := none }) (v := ?_) rfl (by kernel_rfl) (fun _ _ _ h => h) (Or.inl ⟨by rfl, fun W hW => ?_⟩) hS ?_
          rotate_left
          · obtain ⟨hw1, hw2, hw3⟩ := hW; go_simp; (try go_bits); (try rw [if_pos (by omega)]); (try with_reducible rfl)
          (try simp only [Act.put, List.setIfInBounds_toArray, List.set_cons_succ, List.set_cons_zero])
          refine wpE_take (i := 3) (oi := { dst := some 110, op := Go.Op.indexAddr 24 (Go.Operand.tmp 108) (Go.Operand.tmp 109), type := 0, pos := "law.go:147", after := #[{ on := 1, ground := Go.Ground.data }, { on := 2, ground := Go.Ground.data }], guard := none }) (v := ?_) rfl (by kernel_rfl) (fun _ _ _ h => h) (Or.inl ⟨by rfl, fun W hW => ?_⟩) hS ?_
          rotate_left
          · obtain ⟨hw1, hw2, hw3⟩ := hW; go_simp; (try go_bits); (try rw [if_pos (by omega)]); (try with_reducible rfl)
          (try simp only [Act.put, List.setIfInBounds_toArray, List.set_cons_succ, List.set_cons_zero])
          refine wpE_take (i := 4) (oi := { dst := some 111, op := Go.Op.fieldAddr 51 (Go.Operand.tmp 110) 2, type := 0, pos := "law.go:147", after := #[{ on := 3, ground := Go.Ground.data }], guard := none }) (v := ?_) rfl (by kernel_rfl) (fun _ _ _ h => h) (Or.inl ⟨by rfl, fun W hW => ?_⟩) hS ?_
          rotate_left
          · obtain ⟨hw1, hw2, hw3⟩ := hW; go_simp; (try go_bits); (try rw [if_pos (by omega)]); (try with_reducible rfl)
          (try simp only [Act.put, List.setIfInBounds_toArray, List.set_cons_succ, List.set_cons_zero])
          refine wpE_take (i := 5) (oi := { dst := some 112, op := Go.Op.load 23 (Go.Operand.tmp 111), type := 23, pos := "law.go:147", after := #[{ on := 4, ground := Go.Ground.data }], guard := none }) (v := ?_) rfl (by kernel_rfl) (fun _ _ _ h => h) (Or.inl ⟨by rfl, fun W hW => ?_⟩) hS ?_
          rotate_left
          · obtain ⟨hw1, hw2, hw3⟩ := hW; go_simp; (try go_bits); (try rw [if_pos (by omega)]); (try with_reducible rfl)
          (try simp only [Act.put, List.setIfInBounds_toArray, List.set_cons_succ, List.set_cons_zero])
          refine wpE_take (i := 6) (oi := { dst := some 113, op := Go.Op.move (Go.Operand.tmp 2), type := 24, pos := "law.go:147", after := #[], guard := none }) (v := ?_) rfl (by kernel_rfl) (fun _ _ _ h => h) (Or.inl ⟨by rfl, fun W hW => ?_⟩) hS ?_
          rotate_left
          · obtain ⟨hw1, hw2, hw3⟩ := hW; go_simp; (try go_bits); (try rw [if_pos (by omega)]); (try with_reducible rfl)
          (try simp only [Act.put, List.setIfInBounds_toArray, List.set_cons_succ, List.set_cons_zero])
          refine wpE_take (i := 7) (oi := { dst := some 114, op := Go.Op.move (Go.Operand.tmp 14), type := 3, pos := "law.go:147", after := #[], guard := none }) (v := ?_) rfl (by kernel_rfl) (fun _ _ _ h => h) (Or.inl ⟨by rfl, fun W hW => ?_⟩) hS ?_
          rotate_left
          · obtain ⟨hw1, hw2, hw3⟩ := hW; go_simp; (try go_bits); (try rw [if_pos (by omega)]); (try with_reducible rfl)
          (try simp only [Act.put, List.setIfInBounds_toArray, List.set_cons_succ, List.set_cons_zero])
          refine wpE_take (i := 8) (oi := { dst := some 115, op := Go.Op.indexAddr 24 (Go.Operand.tmp 113) (Go.Operand.tmp 114), type := 0, pos := "law.go:147", after := #[{ on := 6, ground := Go.Ground.data }, { on := 7, ground := Go.Ground.data }], guard := none }) (v := ?_) rfl (by kernel_rfl) (fun _ _ _ h => h) (Or.inl ⟨by rfl, fun W hW => ?_⟩) hS ?_
          rotate_left
          · obtain ⟨hw1, hw2, hw3⟩ := hW; go_simp; (try go_bits); (try rw [if_pos (by omega)]); (try with_reducible rfl)
          (try simp only [Act.put, List.setIfInBounds_toArray, List.set_cons_succ, List.set_cons_zero])
          refine wpE_take (i := 9) (oi := { dst := some 116, op := Go.Op.fieldAddr 51 (Go.Operand.tmp 115) 1, type := 0, pos := "law.go:147", after := #[{ on := 8, ground := Go.Ground.data }], guard := none }) (v := ?_) rfl (by kernel_rfl) (fun _ _ _ h => h) (Or.inl ⟨by rfl, fun W hW => ?_⟩) hS ?_
          rotate_left
          · obtain ⟨hw1, hw2, hw3⟩ := hW; go_simp; (try go_bits); (try rw [if_pos (by omega)]); (try with_reducible rfl)
          (try simp only [Act.put, List.setIfInBounds_toArray, List.set_cons_succ, List.set_cons_zero])
          refine wpE_take (i := 10) (oi := { dst := some 117, op := Go.Op.load 3 (Go.Operand.tmp 116), type := 3, pos := "law.go:147", after := #[{ on := 9, ground := Go.Ground.data }], guard := none }) (v := ?_) rfl (by kernel_rfl) (fun _ _ _ h => h) (Or.inl ⟨by rfl, fun W hW => ?_⟩) hS ?_
          rotate_left
          · obtain ⟨hw1, hw2, hw3⟩ := hW; go_simp; (try go_bits); (try rw [if_pos (by omega)]); (try with_reducible rfl)
          (try simp only [Act.put, List.setIfInBounds_toArray, List.set_cons_succ, List.set_cons_zero])
          refine wpE_take (i := 11) (oi := { dst := some 118, op := Go.Op.move (Go.Operand.tmp 2), type := 24, pos := "law.go:147", after := #[], guard := none }) (v := ?_) rfl (by kernel_rfl) (fun _ _ _ h => h) (Or.inl ⟨by rfl, fun W hW => ?_⟩) hS ?_
          rotate_left
          · obtain ⟨hw1, hw2, hw3⟩ := hW; go_simp; (try go_bits); (try rw [if_pos (by omega)]); (try with_reducible rfl)
          (try simp only [Act.put, List.setIfInBounds_toArray, List.set_cons_succ, List.set_cons_zero])
          refine wpE_take (i := 12) (oi := { dst := some 119, op := Go.Op.move (Go.Operand.tmp 14), type := 3, pos := "law.go:147", after := #[], guard := none }) (v := ?_) rfl (by kernel_rfl) (fun _ _ _ h => h) (Or.inl ⟨by rfl, fun W hW => ?_⟩) hS ?_
          rotate_left
          · obtain ⟨hw1, hw2, hw3⟩ := hW; go_simp; (try go_bits); (try rw [if_pos (by omega)]); (try with_reducible rfl)
          (try simp only [Act.put, List.setIfInBounds_toArray, List.set_cons_succ, List.set_cons_zero])
          refine wpE_take (i := 13) (oi := { dst := some 120, op := Go.Op.indexAddr 24 (Go.Operand.tmp 118) (Go.Operand.tmp 119), type := 0, pos := "law.go:147", after := #[{ on := 11, ground := Go.Ground.data }, { on := 12, ground := Go.Ground.data }], guard := none }) (v := ?_) rfl (by kernel_rfl) (fun _ _ _ h => h) (Or.inl ⟨by rfl, fun W hW => ?_⟩) hS ?_
          rotate_left
          · obtain ⟨hw1, hw2, hw3⟩ := hW; go_simp; (try go_bits); (try rw [if_pos (by omega)]); (try with_reducible rfl)
          (try simp only [Act.put, List.setIfInBounds_toArray, List.set_cons_succ, List.set_cons_zero])
          refine wpE_take (i := 14) (oi := { dst := some 121, op := Go.Op.fieldAddr 51 (Go.Operand.tmp 120) 3, type := 0, pos := "law.go:147", after := #[{ on := 13, ground := Go.Ground.data }], guard := none }) (v := ?_) rfl (by kernel_rfl) (fun _ _ _ h => h) (Or.inl ⟨by rfl, fun W hW => ?_⟩) hS ?_
          rotate_left
          · obtain ⟨hw1, hw2, hw3⟩ := hW; go_simp; (try go_bits); (try rw [if_pos (by omega)]); (try with_reducible rfl)
          (try simp only [Act.put, List.setIfInBounds_toArray, List.set_cons_succ, List.set_cons_zero])
          refine wpE_take (i := 15) (oi := { dst := some 122, op := Go.Op.load 23 (Go.Operand.tmp 121), type := 23, pos := "law.go:147", after := #[{ on := 14, ground := Go.Ground.data }], guard := none }) (v := ?_) rfl (by kernel_rfl) (fun _ _ _ h => h) (Or.inl ⟨by rfl, fun W hW => ?_⟩) hS ?_
          rotate_left
          · obtain ⟨hw1, hw2, hw3⟩ := hW; go_simp; (try go_bits); (try rw [if_pos (by omega)]); (try with_reducible rfl)
          (try simp only [Act.put, List.setIfInBounds_toArray, List.set_cons_succ, List.set_cons_zero])
          refine wpE_last (oi := { dst := some 123, op := Go.Op.call { callee := Go.Callee.value (Go.Operand.func 11), args := #[Go.Operand.tmp 107, Go.Operand.tmp 112, Go.Operand.tmp 117, Go.Operand.tmp 122], argTypes := #[42, 23, 3, 23] }, type := 4, pos := "law.go:147", after := #[{ on := 0, ground := Go.Ground.data }, { on := 5, ground := Go.Ground.data }, { on := 10, ground := Go.Ground.data }, { on := 15, ground := Go.Ground.data }], guard := none }) rfl (by kernel_rfl) (by kernel_rfl) (by rfl) (fun K hK => ?_)
          go_simp; refine HW.out.mono ?_; rintro y w8 ⟨rfl, own8, hS8, hB8⟩
          have hO8 := hS8.blk H7.out.1.1 H7.out.1.2 (by decide)
          have H8 := Lib.hid (show ∃ own' s, PB wr own' w8 e p rp tp 8 3 s ⟨sB root, M0, []⟩ ∧ s.cp = 0 ∧ (Blk w8 xo 36 #[.pointer (some ⟨p, 0, none⟩), .pointer (some ⟨q, 0, none⟩), .pointer (some ⟨rp, 0, none⟩), .pointer (some ⟨p2, 0, none⟩)] ∧ own' xo = 50) from ⟨own8, _, hB8, H7.out.2, hO8⟩)
          clear HW H7 hS8 hB8 hO8
          refine hK _ _ ?_; clear hK K
          go_wp2
          exact ⟨⟨j + 1, by go_num, by omega, H8.out⟩, by simp [intOf]; omega⟩
        · obtain rfl : j = L.length := by omega
          have HRd := Lib.hid hB.dst
          have HO := Lib.hid (And.intro hO hcp)
          clear hB hO hcp HR hlt HL
          go_wp2_with fail
          ((with_reducible refine HRd.out.mono ?_); rintro x w8 ⟨rfl, own8, hS8, hB8⟩)
          have hO8 := hS8.blk HO.out.1.1 HO.out.1.2 (by decide)
          have HBu := Lib.hid (eng_Busy hB8.eg)
          have hsd : SdU ⟨sB root, M0, []⟩ root := sB_sd hr7 (show ∀ x, 0 ≤ M0 x ∧ M0 x < 256 from (show PA own8 w8 p rp tp 8 (sB root) M0 [] from hB8.pa).mm.bd) HU.out.2
          have hplb : plB s = s.rg 8 := by unfold plB; rw [HO.out.2]; have := hB8.ok.rg 8; omega
          have H8 := Lib.hid (And.intro hB8 (And.intro hO8 (And.intro hsd hplb)))
          have hr8 := hB8.ok.rg 8
          clear HRd hS8 hB8 hO8 hsd hplb HO
          by_cases hs : s.st = 1
          · rw [decide_eq_true hs] at HBu
            go_wp2_with fail
            ((with_reducible refine HBu.out.mono ?_); rintro x wz ⟨rfl, rfl⟩)
            clear HBu
            have HAc := Lib.hid (H8.out.1.acc (s.rg 8) hr8 true)
            have x0 := H8.out.2.1.1.cell 0
            simp only [List.getElem?_toArray, List.getElem?_cons_zero] at x0
            go_wp2_with fail
            ((with_reducible refine HAc.out.mono ?_); rintro x w9 ⟨rfl, own9, hS9, hB9⟩)
            have hO9 := hS9.blk H8.out.2.1.1 H8.out.2.1.2 (by decide)
            have hsd9 : SdU (accU 8 3 ⟨sB root, M0, []⟩ (s.rg 8) true) root := H8.out.2.2.1.acc 8 3 _ _
            have hl9 : SameLow M0 (accU 8 3 ⟨sB root, M0, []⟩ (s.rg 8) true).m := accU_low H8.out.2.2.1.rg 8 3 _ _
            obtain ⟨pa0, hPA⟩ : ∃ pa0, (accK 8 3 ⟨sB root, M0, []⟩ (s.rg 8) true).1 = pa0 := ⟨_, rfl⟩
            obtain ⟨KD, hKD⟩ : ∃ KD, (accK 8 3 ⟨sB root, M0, []⟩ (s.rg 8) true).2.1 = KD := ⟨_, rfl⟩
            have hPl : pa0 ≤ 32768 := by rw [← hPA]; exact accA_lt
            have HK := Lib.hid (And.intro hPA (And.intro hKD (And.intro H8.out.2.2.1 (And.intro H8.out.2.2.2 hs))))
            have H9 := Lib.hid (show ∃ own' u, PB wr own' w9 e p rp tp 8 3 s u ∧ SdU u root ∧ SameLow M0 u.m ∧ (Blk w9 xo 36 #[.pointer (some ⟨p, 0, none⟩), .pointer (some ⟨q, 0, none⟩), .pointer (some ⟨rp, 0, none⟩), .pointer (some ⟨p2, 0, none⟩)] ∧ own' xo = 50) from ⟨own9, _, hB9, hsd9, hl9, hO9⟩)
            rw [hPA, hKD]
            clear HAc hS9 hB9 hO9 hsd9 hl9 hPA hKD H8 x0
            go_wp2
            go_loopw [20] (fun i wn => ∃ (j : Nat), i = .int .i64 (j : Int) ∧ j ≤ 3 ∧ Hid (∃ own' u, PB wr own' wn e p rp tp 8 3 s u ∧ SdU u root ∧ SameLow M0 u.m ∧ (Blk wn xo 36 #[.pointer (some ⟨p, 0, none⟩), .pointer (some ⟨q, 0, none⟩), .pointer (some ⟨rp, 0, none⟩), .pointer (some ⟨p2, 0, none⟩)] ∧ own' xo = 50))) (fun i _ => 3 - (intOf i).toNat)
            case atStart => exact ⟨0, rfl, by omega, H9.out⟩
            case round =>
              rename World => wn
              obtain ⟨j, rfl, hj, HR⟩ := hrel
              clear H9
              obtain ⟨own10, u, hB, hsd, hlw, hO⟩ := HR.out
              have x0 := hO.1.cell 0
              have x2 := hO.1.cell 2
              simp only [List.getElem?_toArray, List.getElem?_cons_zero, List.getElem?_cons_succ] at x0 x2
              by_cases hlt : j < 3
              · have hlt' : decide ((j : Int) < 3) = true := by simp; omega
                have HN := Lib.hid hB.next
                have H10 := Lib.hid (And.intro hsd (And.intro hlw hO))
                clear hB hsd hlw hO HR x2
                go_wp2_with fail
                ((with_reducible refine HN.out.mono ?_); rintro y w11 ⟨⟨yv, rfl⟩, own11, hS11, hB11⟩)
                have hO11 := hS11.blk H10.out.2.2.1 H10.out.2.2.2 (by decide)
                have H11 := Lib.hid (show ∃ own' u, PB wr own' w11 e p rp tp 8 3 s u ∧ SdU u root ∧ SameLow M0 u.m ∧ (Blk w11 xo 36 #[.pointer (some ⟨p, 0, none⟩), .pointer (some ⟨q, 0, none⟩), .pointer (some ⟨rp, 0, none⟩), .pointer (some ⟨p2, 0, none⟩)] ∧ own' xo = 50) from ⟨own11, nextU u, hB11, H10.out.1.nextU, H10.out.2.1, hO11⟩)
                clear HN hS11 hB11 hO11 H10 x0
                go_wp2
                exact ⟨⟨j + 1, by go_num, by omega, H11.out⟩, by simp [intOf]; omega⟩
              · obtain rfl : j = 3 := by omega
                rw [show ((3 : Nat) : Int) = 3 from rfl]
                have HBq := Lib.hid (show PB wr own10 wn e p rp tp 8 3 s u ∧ SdU u root ∧ SameLow M0 u.m ∧ (Blk wn xo 36 #[.pointer (some ⟨p, 0, none⟩), .pointer (some ⟨q, 0, none⟩), .pointer (some ⟨rp, 0, none⟩), .pointer (some ⟨p2, 0, none⟩)] ∧ own10 xo = 50) from ⟨hB, hsd, hlw, hO⟩)
                have HDF := Lib.hid (fun x (hx : x < 28672) (hne : (stepU 8 3 [] u s).m x ≠ u.m x) => step_turns HK.out.2.2.1 hsd hlw 8 3 [] s x hx hne)
                clear hB hsd hlw hO HR hlt
                have HCp := Lib.hid (ram_Copy (d := 70) (show PA own10 wn p rp tp 8 (u : Uv).s (u : Uv).m (u : Uv).l from HBq.out.1.pa).mm (by decide))
                go_wp2_with fail
                ((with_reducible refine HCp.out.mono ?_); rintro y w12 ⟨pc, own12, rfl, hS12, hMc⟩)
                have hB12 := HBq.out.1.none_ hS12
                have hO12 := hS12.blk HBq.out.2.2.2.1 HBq.out.2.2.2.2 (fun h => h)
                have HSt := Lib.hid (hB12.stepE [] rfl)
                have H12 := Lib.hid (And.intro hMc hO12)
                clear HCp hS12 hMc hB12 hO12 HBq
                go_wp2_with fail
                ((with_reducible refine HSt.out.mono ?_); rintro y w13 ⟨rfl, own13, hS13, hB13⟩)
                have hMc13 : MemAt ramK own13 70 w13 pc 0 8 u.m := H12.out.1.step hS13 (by decide)
                have hO13 := hS13.blk H12.out.2.1 H12.out.2.2 (by decide)
                obtain ⟨ub, hub⟩ : ∃ ub, stepU 8 3 [] u s = ub := ⟨_, rfl⟩
                obtain ⟨sb, hsb⟩ : ∃ sb, stepX 8 3 u s = sb := ⟨_, rfl⟩
                rw [hub, hsb] at hB13
                have HDG := Lib.hid (show ∀ x, x < 28672 → ub.m x ≠ u.m x → _ from fun x hx hne => HDF.out x hx (by rw [hub]; exact hne))
                have H13 := Lib.hid (show ∃ own', PB wr own' w13 e p rp tp 8 3 sb ub ∧ MemAt ramK own' 70 w13 pc 0 8 u.m ∧ (Blk w13 xo 36 #[.pointer (some ⟨p, 0, none⟩), .pointer (some ⟨q, 0, none⟩), .pointer (some ⟨rp, 0, none⟩), .pointer (some ⟨p2, 0, none⟩)] ∧ own' xo = 50) from ⟨own13, hB13, hMc13, hO13⟩)
                obtain ⟨um, hum⟩ : ∃ um : Nat → Int, u.m = um := ⟨_, rfl⟩
                rw [hum] at H13 HDG
                clear HSt hS13 hB13 hMc13 hO13 H12 hub hsb HDF hum x2
                go_wp2
                go_loopw [22] (fun i wf => ∃ (f : Nat), i = .int .u64 (f : Int) ∧ f ≤ 7 ∧ Hid (∃ own', PB wr own' wf e p rp tp 8 3 sb ub ∧ MemAt ramK own' 70 wf pc 0 8 um ∧ (Blk wf xo 36 #[.pointer (some ⟨p, 0, none⟩), .pointer (some ⟨q, 0, none⟩), .pointer (some ⟨rp, 0, none⟩), .pointer (some ⟨p2, 0, none⟩)] ∧ own' xo = 50))) (fun i _ => 7 - (intOf i).toNat)
                case atStart => exact ⟨0, rfl, by omega, H13.out⟩
                case round =>
                  rename World => wf
                  obtain ⟨f, rfl, hf, HR⟩ := hrel
                  clear H13
                  obtain ⟨own14, hB, hMc, hO⟩ := HR.out
                  by_cases hlt : f < 7
                  · have hlt' : decide ((f : Int) < 7) = true := by simp; omega
                    have hBy := ram_Bytes' hMc (f * 4096) 4096 71 (by omega) (by decide) ((f : Int) * 4096) (by omega)
                    rw [show ((4096 : Nat) : Int) = 4096 from rfl] at hBy
                    have HBy := Lib.hid hBy
                    have H14 := Lib.hid (And.intro hB (And.intro hMc hO))
                    clear hB hMc hO hBy HR
                    go_wp2_with fail
                    ((with_reducible refine HBy.out.mono ?_); rintro y w15 ⟨b1, own15, rfl, hS15, hob1, hBA1⟩)
                    have hB15 := H14.out.1.none_ hS15
                    have hMc15 := H14.out.2.1.step hS15 (fun h => h)
                    have hO15 := hS15.blk H14.out.2.2.1 H14.out.2.2.2 (fun h => h)
                    have hBy := ram_Bytes' (show PA own15 w15 p rp tp 8 ub.s ub.m ub.l from hB15.pa).mm (f * 4096) 4096 72 (by omega) (by decide) ((f : Int) * 4096) (by omega)
                    rw [show ((4096 : Nat) : Int) = 4096 from rfl] at hBy
                    have HB2 := Lib.hid hBy
                    have x2 := hO15.1.cell 2
                    simp only [List.getElem?_toArray, List.getElem?_cons_zero, List.getElem?_cons_succ] at x2
                    have H15 := Lib.hid (And.intro hB15 (And.intro hMc15 (And.intro hO15 (And.intro hob1 hBA1))))
                    clear HBy H14 hS15 hob1 hBA1 hB15 hMc15 hO15 hBy
                    go_wp2_with fail
                    ((with_reducible refine HB2.out.mono ?_); rintro y w16 ⟨b2, own16, rfl, hS16, hob2, hBA2⟩)
                    have hB16 := H15.out.1.none_ hS16
                    have hMc16 := H15.out.2.1.step hS16 (fun h => h)
                    have hO16 := hS16.blk H15.out.2.2.1.1 H15.out.2.2.1.2 (fun h => h)
                    obtain ⟨cc, hBk, hcs, hcc⟩ := H15.out.2.2.2.2
                    obtain ⟨k1, _⟩ := hS16.blk hBk H15.out.2.2.2.1 (fun h => h)
                    obtain ⟨cc2, hBk2, hcs2, hcc2⟩ := hBA2
                    have HCC := Lib.hid (show ∀ k, k < 4096 → w16.cell? ⟨b1, k, none⟩ = some (.int .u8 (um (f * 4096 + k))) ∧ w16.cell? ⟨b2, k, none⟩ = some (.int .u8 (ub.m (f * 4096 + k))) from fun k hk => ⟨by rw [k1.cell, hcc k hk], by rw [hBk2.cell, hcc2 k hk]⟩)
                    have hl1 := k1.lt
                    have hl2 := hBk2.lt
                    have H16 := Lib.hid (And.intro hB16 (And.intro hMc16 hO16))
                    clear HB2 H15 hS16 hob2 hB16 hMc16 hO16 hBk hcs hcc k1 hBk2 hcs2 hcc2 x2
                    go_wp2
                    go_loopw [27] (fun i wk => ∃ (k qn : Nat), i = .int .u64 (k : Int) ∧ k ≤ 4096 ∧ wk = w16.drewN qn) (fun i _ => 4096 - (intOf i).toNat)
                    case atStart => exact ⟨0, 0, rfl, by omega, rfl⟩
                    case round =>
                      obtain ⟨k, qn, rfl, hk, rfl⟩ := hrel
                      by_cases hk4 : k < 4096
                      · have hk4' : decide ((k : Int) < 4096) = true := by simp; omega
                        obtain ⟨e1, e2⟩ := HCC.out k hk4
                        have e1 : (w16.drewN qn).cell? ⟨b1, k, none⟩ = some (.int .u8 (um (f * 4096 + k))) := e1
                        have e2 : (w16.drewN qn).cell? ⟨b2, k, none⟩ = some (.int .u8 (ub.m (f * 4096 + k))) := e2
                        obtain ⟨X, hX⟩ : ∃ X, um (f * 4096 + k) = X := ⟨_, rfl⟩
                        obtain ⟨Y, hY⟩ : ∃ Y, ub.m (f * 4096 + k) = Y := ⟨_, rfl⟩
                        have hgo := HDG.out (f * 4096 + k) (by omega)
                        rw [hX, hY] at hgo
                        rw [hX] at e1
                        rw [hY] at e2
                        by_cases hxy : X = Y
                        · have hne : (X != Y) = false := by rw [hxy]; simp
                          clear hgo hX hY
                          go_wp2_with fail
                          refine wpE_region (S := fun (W' : World) => W'.cell? ⟨b1, k, none⟩ = some (.int .u8 X) ∧ W'.cell? ⟨b2, k, none⟩ = some (.int .u8 Y)) (s := 27) (by kernel_rfl) ?_
                          have hS : (fun (W' : World) => W'.cell? ⟨b1, k, none⟩ = some (.int .u8 X) ∧ W'.cell? ⟨b2, k, none⟩ = some (.int .u8 Y)) _ := ⟨e1, e2⟩
                          refine wpE_take (i := 0) (oi := { dst := some 182, op := Go.Op.move (Go.Operand.tmp 23), type := 63, pos := "law.go:168", after := #[], guard := none }) (v := ?_) rfl (by kernel_rfl) (fun _ _ _ h => h) (Or.inl ⟨by rfl, fun W hW => ?_⟩) hS ?_
                          rotate_left
                          · obtain ⟨hw1, hw2⟩ := hW; go_simp; (try go_bits); (try rw [if_pos (by omega)]); (try with_reducible rfl)
                          (try simp only [Act.put, List.setIfInBounds_toArray, List.set_cons_succ, List.set_cons_zero])
                          refine wpE_take (i := 1) (oi := { dst := some 183, op := Go.Op.move (Go.Operand.tmp 27), type := 23, pos := "law.go:168", after := #[], guard := none }) (v := ?_) rfl (by kernel_rfl) (fun _ _ _ h => h) (Or.inl ⟨by rfl, fun W hW => ?_⟩) hS ?_
                          rotate_left
                          · obtain ⟨hw1, hw2⟩ := hW; go_simp; (try go_bits); (try rw [if_pos (by omega)]); (try with_reducible rfl)
                          (try simp only [Act.put, List.setIfInBounds_toArray, List.set_cons_succ, List.set_cons_zero])
                          refine wpE_take (i := 2) (oi := { dst := some 184, op := Go.Op.indexAddr 63 (Go.Operand.tmp 182) (Go.Operand.tmp 183), type := 0, pos := "law.go:168", after := #[{ on := 0, ground := Go.Ground.data }, { on := 1, ground := Go.Ground.data }], guard := none }) (v := ?_) rfl (by kernel_rfl) (fun _ _ _ h => h) (Or.inl ⟨by rfl, fun W hW => ?_⟩) hS ?_
                          rotate_left
                          · obtain ⟨hw1, hw2⟩ := hW; go_simp; (try go_bits); (try rw [if_pos (by omega)]); (try with_reducible rfl)
                          (try simp only [Act.put, List.setIfInBounds_toArray, List.set_cons_succ, List.set_cons_zero])
                          refine wpE_take (i := 3) (oi := { dst := some 185, op := Go.Op.load 5 (Go.Operand.tmp 184), type := 5, pos := "law.go:168", after := #[{ on := 2, ground := Go.Ground.data }], guard := none }) (v := ?_) rfl (by kernel_rfl) (fun _ _ _ h => h) (Or.inl ⟨by rfl, fun W hW => ?_⟩) hS ?_
                          rotate_left
                          · obtain ⟨hw1, hw2⟩ := hW; go_simp; (try go_bits); (try rw [if_pos (by omega)]); (try with_reducible rfl)
                          (try simp only [Act.put, List.setIfInBounds_toArray, List.set_cons_succ, List.set_cons_zero])
                          refine wpE_take (i := 4) (oi := { dst := some 186, op := Go.Op.move (Go.Operand.tmp 25), type := 63, pos := "law.go:168", after := #[], guard := none }) (v := ?_) rfl (by kernel_rfl) (fun _ _ _ h => h) (Or.inl ⟨by rfl, fun W hW => ?_⟩) hS ?_
                          rotate_left
                          · obtain ⟨hw1, hw2⟩ := hW; go_simp; (try go_bits); (try rw [if_pos (by omega)]); (try with_reducible rfl)
                          (try simp only [Act.put, List.setIfInBounds_toArray, List.set_cons_succ, List.set_cons_zero])
                          refine wpE_take (i := 5) (oi := { dst := some 187, op := Go.Op.move (Go.Operand.tmp 27), type := 23, pos := "law.go:168", after := #[], guard := none }) (v := ?_) rfl (by kernel_rfl) (fun _ _ _ h => h) (Or.inl ⟨by rfl, fun W hW => ?_⟩) hS ?_
                          rotate_left
                          · obtain ⟨hw1, hw2⟩ := hW; go_simp; (try go_bits); (try rw [if_pos (by omega)]); (try with_reducible rfl)
                          (try simp only [Act.put, List.setIfInBounds_toArray, List.set_cons_succ, List.set_cons_zero])
                          refine wpE_take (i := 6) (oi := { dst := some 188, op := Go.Op.indexAddr 63 (Go.Operand.tmp 186) (Go.Operand.tmp 187), type := 0, pos := "law.go:168", after := #[{ on := 4, ground := Go.Ground.data }, { on := 5, ground := Go.Ground.data }], guard := none }) (v := ?_) rfl (by kernel_rfl) (fun _ _ _ h => h) (Or.inl ⟨by rfl, fun W hW => ?_⟩) hS ?_
                          rotate_left
                          · obtain ⟨hw1, hw2⟩ := hW; go_simp; (try go_bits); (try rw [if_pos (by omega)]); (try with_reducible rfl)
                          (try simp only [Act.put, List.setIfInBounds_toArray, List.set_cons_succ, List.set_cons_zero])
                          refine wpE_take (i := 7) (oi := { dst := some 189, op := Go.Op.load 5 (Go.Operand.tmp 188), type := 5, pos := "law.go:168", after := #[{ on := 6, ground := Go.Ground.data }], guard := none }) (v := ?_) rfl (by kernel_rfl) (fun _ _ _ h => h) (Or.inl ⟨by rfl, fun W hW => ?_⟩) hS ?_
                          rotate_left
                          · obtain ⟨hw1, hw2⟩ := hW; go_simp; (try go_bits); (try rw [if_pos (by omega)]); (try with_reducible rfl)
                          (try simp only [Act.put, List.setIfInBounds_toArray, List.set_cons_succ, List.set_cons_zero])
                          refine wpE_take (i := 8) (oi := { dst := some 190, op := Go.Op.binOp Go.BinOp.neq 5 (Go.Operand.tmp 185) (Go.Operand.tmp 189) 5, type := 4, pos := "law.go:168", after := #[{ on := 3, ground := Go.Ground.data }, { on := 7, ground := Go.Ground.data }], guard := none }) (v := .bool false) rfl (by kernel_rfl) (fun _ _ _ h => h) (Or.inl ⟨by rfl, fun W hW => ?_⟩) hS ?_
                          · obtain ⟨hw1, hw2⟩ := hW; go_simp; (try go_bits); (try rw [if_pos (by omega)]); (try with_reducible rfl)
                          (try simp only [Act.put, List.setIfInBounds_toArray, List.set_cons_succ, List.set_cons_zero])
                          refine wpE_take (i := 9) (oi := { dst := some 191, op := Go.Op.move (Go.Operand.tmp 190), type := 4, pos := "law.go:168", after := #[{ on := 8, ground := Go.Ground.data }], guard := none }) (v := .bool false) rfl (by kernel_rfl) (fun _ _ _ h => h) (Or.inl ⟨by rfl, fun W hW => ?_⟩) hS ?_
                          · obtain ⟨hw1, hw2⟩ := hW; go_simp; (try go_bits); (try rw [if_pos (by omega)]); (try with_reducible rfl)
                          (try simp only [Act.put, List.setIfInBounds_toArray, List.set_cons_succ, List.set_cons_zero])
                          refine wpE_take (i := 10) (oi := { dst := some 192, op := Go.Op.move (Go.Operand.tmp 17), type := 4, pos := "law.go:168", after := #[{ on := 9, ground := Go.Ground.guard }], guard := some (9, true) }) (v := undef) rfl (by kernel_rfl) (fun _ _ _ h => h) (Or.inr ⟨by rfl, rfl⟩) hS ?_
                          (try simp only [Act.put, List.setIfInBounds_toArray, List.set_cons_succ, List.set_cons_zero])
                          refine wpE_take (i := 11) (oi := { dst := some 193, op := Go.Op.unOp Go.UnOp.not 4 (Go.Operand.tmp 192), type := 4, pos := "law.go:168", after := #[{ on := 10, ground := Go.Ground.data }, { on := 9, ground := Go.Ground.guard }], guard := some (9, true) }) (v := undef) rfl (by kernel_rfl) (fun _ _ _ h => h) (Or.inr ⟨by rfl, rfl⟩) hS ?_
                          (try simp only [Act.put, List.setIfInBounds_toArray, List.set_cons_succ, List.set_cons_zero])
                          refine wpE_take (i := 12) (oi := { dst := some 194, op := Go.Op.move (Go.Operand.tmp 193), type := 4, pos := "law.go:168", after := #[{ on := 11, ground := Go.Ground.data }, { on := 9, ground := Go.Ground.chain }, { on := 9, ground := Go.Ground.guard }], guard := some (9, true) }) (v := undef) rfl (by kernel_rfl) (fun _ _ _ h => h) (Or.inr ⟨by rfl, rfl⟩) hS ?_
                          (try simp only [Act.put, List.setIfInBounds_toArray, List.set_cons_succ, List.set_cons_zero])
                          refine wpE_take (i := 13) (oi := { dst := some 195, op := Go.Op.move (Go.Operand.tmp 19), type := 4, pos := "law.go:168", after := #[{ on := 12, ground := Go.Ground.guard }], guard := some (12, false) }) (v := undef) rfl (by kernel_rfl) (fun _ _ _ h => h) (Or.inr ⟨by rfl, rfl⟩) hS ?_
                          (try simp only [Act.put, List.setIfInBounds_toArray, List.set_cons_succ, List.set_cons_zero])
                          refine wpE_take (i := 14) (oi := { dst := some 196, op := Go.Op.unOp Go.UnOp.not 4 (Go.Operand.tmp 195), type := 4, pos := "law.go:168", after := #[{ on := 13, ground := Go.Ground.data }, { on := 12, ground := Go.Ground.guard }], guard := some (12, false) }) (v := undef) rfl (by kernel_rfl) (fun _ _ _ h => h) (Or.inr ⟨by rfl, rfl⟩) hS ?_
                          (try simp only [Act.put, List.setIfInBounds_toArray, List.set_cons_succ, List.set_cons_zero])
                          refine wpE_take (i := 15) (oi := { dst := some 197, op := Go.Op.pick (Go.Operand.tmp 194) (Go.Operand.const (Go.Value.bool true)) (Go.Operand.tmp 196), type := 4, pos := "law.go:168", after := #[{ on := 12, ground := Go.Ground.data }, { on := 14, ground := Go.Ground.data }, { on := 9, ground := Go.Ground.guard }], guard := some (9, true) }) (v := undef) rfl (by kernel_rfl) (fun _ _ _ h => h) (Or.inr ⟨by rfl, rfl⟩) hS ?_
                          (try simp only [Act.put, List.setIfInBounds_toArray, List.set_cons_succ, List.set_cons_zero])
                          refine wpE_take (i := 16) (oi := { dst := some 198, op := Go.Op.move (Go.Operand.tmp 197), type := 4, pos := "law.go:168", after := #[{ on := 15, ground := Go.Ground.data }, { on := 12, ground := Go.Ground.chain }, { on := 9, ground := Go.Ground.guard }], guard := some (9, true) }) (v := undef) rfl (by kernel_rfl) (fun _ _ _ h => h) (Or.inr ⟨by rfl, rfl⟩) hS ?_
                          (try simp only [Act.put, List.setIfInBounds_toArray, List.set_cons_succ, List.set_cons_zero])
                          refine wpE_take (i := 17) (oi := { dst := some 199, op := Go.Op.move (Go.Operand.tmp 28), type := 23, pos := "law.go:168", after := #[{ on := 16, ground := Go.Ground.guard }], guard := some (16, false) }) (v := undef) rfl (by kernel_rfl) (fun _ _ _ h => h) (Or.inr ⟨by rfl, rfl⟩) hS ?_
                          (try simp only [Act.put, List.setIfInBounds_toArray, List.set_cons_succ, List.set_cons_zero])
                          refine wpE_take (i := 18) (oi := { dst := some 200, op := Go.Op.move (Go.Operand.tmp 18), type := 23, pos := "law.go:168", after := #[{ on := 16, ground := Go.Ground.guard }], guard := some (16, false) }) (v := undef) rfl (by kernel_rfl) (fun _ _ _ h => h) (Or.inr ⟨by rfl, rfl⟩) hS ?_
                          (try simp only [Act.put, List.setIfInBounds_toArray, List.set_cons_succ, List.set_cons_zero])
                          refine wpE_take (i := 19) (oi := { dst := some 201, op := Go.Op.binOp Go.BinOp.lss 23 (Go.Operand.tmp 199) (Go.Operand.tmp 200) 23, type := 4, pos := "law.go:168", after := #[{ on := 17, ground := Go.Ground.data }, { on := 18, ground := Go.Ground.data }, { on := 16, ground := Go.Ground.guard }], guard := some (16, false) }) (v := undef) rfl (by kernel_rfl) (fun _ _ _ h => h) (Or.inr ⟨by rfl, rfl⟩) hS ?_
                          (try simp only [Act.put, List.setIfInBounds_toArray, List.set_cons_succ, List.set_cons_zero])
                          refine wpE_take (i := 20) (oi := { dst := some 202, op := Go.Op.pick (Go.Operand.tmp 198) (Go.Operand.const (Go.Value.bool true)) (Go.Operand.tmp 201), type := 4, pos := "law.go:168", after := #[{ on := 16, ground := Go.Ground.data }, { on := 19, ground := Go.Ground.data }, { on := 9, ground := Go.Ground.guard }], guard := some (9, true) }) (v := undef) rfl (by kernel_rfl) (fun _ _ _ h => h) (Or.inr ⟨by rfl, rfl⟩) hS ?_
                          (try simp only [Act.put, List.setIfInBounds_toArray, List.set_cons_succ, List.set_cons_zero])
                          refine wpE_take (i := 21) (oi := { dst := some 203, op := Go.Op.move (Go.Operand.tmp 202), type := 4, pos := "law.go:168", after := #[{ on := 20, ground := Go.Ground.data }, { on := 16, ground := Go.Ground.chain }, { on := 9, ground := Go.Ground.guard }], guard := some (9, true) }) (v := undef) rfl (by kernel_rfl) (fun _ _ _ h => h) (Or.inr ⟨by rfl, rfl⟩) hS ?_
                          (try simp only [Act.put, List.setIfInBounds_toArray, List.set_cons_succ, List.set_cons_zero])
                          refine wpE_take (i := 22) (oi := { dst := some 204, op := Go.Op.move (Go.Operand.tmp 28), type := 23, pos := "law.go:168", after := #[{ on := 21, ground := Go.Ground.guard }], guard := some (21, false) }) (v := undef) rfl (by kernel_rfl) (fun _ _ _ h => h) (Or.inr ⟨by rfl, rfl⟩) hS ?_
                          (try simp only [Act.put, List.setIfInBounds_toArray, List.set_cons_succ, List.set_cons_zero])
                          refine wpE_take (i := 23) (oi := { dst := some 205, op := Go.Op.move (Go.Operand.tmp 18), type := 23, pos := "law.go:168", after := #[{ on := 21, ground := Go.Ground.guard }], guard := some (21, false) }) (v := undef) rfl (by kernel_rfl) (fun _ _ _ h => h) (Or.inr ⟨by rfl, rfl⟩) hS ?_
                          (try simp only [Act.put, List.setIfInBounds_toArray, List.set_cons_succ, List.set_cons_zero])
                          refine wpE_take (i := 24) (oi := { dst := some 206, op := Go.Op.binOp Go.BinOp.add 23 (Go.Operand.tmp 205) (Go.Operand.const (Go.Value.int Go.IntKind.u64 8)) 23, type := 23, pos := "law.go:168", after := #[{ on := 23, ground := Go.Ground.data }, { on := 21, ground := Go.Ground.guard }], guard := some (21, false) }) (v := undef) rfl (by kernel_rfl) (fun _ _ _ h => h) (Or.inr ⟨by rfl, rfl⟩) hS ?_
                          (try simp only [Act.put, List.setIfInBounds_toArray, List.set_cons_succ, List.set_cons_zero])
                          refine wpE_take (i := 25) (oi := { dst := some 207, op := Go.Op.binOp Go.BinOp.geq 23 (Go.Operand.tmp 204) (Go.Operand.tmp 206) 23, type := 4, pos := "law.go:168", after := #[{ on := 22, ground := Go.Ground.data }, { on := 24, ground := Go.Ground.data }, { on := 21, ground := Go.Ground.guard }], guard := some (21, false) }) (v := undef) rfl (by kernel_rfl) (fun _ _ _ h => h) (Or.inr ⟨by rfl, rfl⟩) hS ?_
                          (try simp only [Act.put, List.setIfInBounds_toArray, List.set_cons_succ, List.set_cons_zero])
                          refine wpE_take (i := 26) (oi := { dst := some 208, op := Go.Op.pick (Go.Operand.tmp 203) (Go.Operand.const (Go.Value.bool true)) (Go.Operand.tmp 207), type := 4, pos := "law.go:168", after := #[{ on := 21, ground := Go.Ground.data }, { on := 25, ground := Go.Ground.data }, { on := 9, ground := Go.Ground.guard }], guard := some (9, true) }) (v := undef) rfl (by kernel_rfl) (fun _ _ _ h => h) (Or.inr ⟨by rfl, rfl⟩) hS ?_
                          (try simp only [Act.put, List.setIfInBounds_toArray, List.set_cons_succ, List.set_cons_zero])
                          refine wpE_last (oi := { dst := some 209, op := Go.Op.pick (Go.Operand.tmp 191) (Go.Operand.tmp 208) (Go.Operand.const (Go.Value.bool false)), type := 4, pos := "law.go:168", after := #[{ on := 9, ground := Go.Ground.data }, { on := 26, ground := Go.Ground.data }], guard := none }) rfl (by kernel_rfl) (by kernel_rfl) (by rfl) (fun K hK => ?_)
                          go_simp; (try go_bits); refine hK _ _ ?_; clear hK K
                          go_wp2
                          exact ⟨⟨k + 1, qn + 1, by go_num, by omega, rfl⟩, by simp [intOf]; omega⟩
                        · obtain ⟨g1, g2, g3, g4⟩ := hgo (fun h => hxy h.symm)
                          rw [HK.out.2.2.2.1] at g2 g3 g4
                          rw [HK.out.2.1] at g2
                          rw [HK.out.1] at g3 g4
                          subst g2
                          have hne : (X != Y) = true := by simpa using hxy
                          have d1 : decide ((f : Int) * 4096 + (k : Int) < (pa0 : Int)) = false := by simp; omega
                          have d2 : decide ((pa0 : Int) + 8 ≤ (f : Int) * 4096 + (k : Int)) = false := by simp; omega
                          have d3 : ¬ (f * 4096 + k < pa0) := by omega
                          have d4 : ¬ (pa0 + 8 ≤ f * 4096 + k) := by omega
                          clear hX hY g1 hgo
                          go_wp2_with fail
                          refine wpE_region (S := fun (W' : World) => W'.cell? ⟨b1, k, none⟩ = some (.int .u8 X) ∧ W'.cell? ⟨b2, k, none⟩ = some (.int .u8 Y)) (s := 27) (by kernel_rfl) ?_
                          have hS : (fun (W' : World) => W'.cell? ⟨b1, k, none⟩ = some (.int .u8 X) ∧ W'.cell? ⟨b2, k, none⟩ = some (.int .u8 Y)) _ := ⟨e1, e2⟩
                          refine wpE_take (i := 0) (oi := { dst := some 182, op := Go.Op.move (Go.Operand.tmp 23), type := 63, pos := "law.go:168", after := #[], guard := none }) (v := ?_) rfl (by kernel_rfl) (fun _ _ _ h => h) (Or.inl ⟨by rfl, fun W hW => ?_⟩) hS ?_
                          rotate_left
                          · obtain ⟨hw1, hw2⟩ := hW; go_simp; (try go_bits); (try rw [if_pos (by omega)]); (try with_reducible rfl)
                          (try simp only [Act.put, List.setIfInBounds_toArray, List.set_cons_succ, List.set_cons_zero])
                          refine wpE_take (i := 1) (oi := { dst := some 183, op := Go.Op.move (Go.Operand.tmp 27), type := 23, pos := "law.go:168", after := #[], guard := none }) (v := ?_) rfl (by kernel_rfl) (fun _ _ _ h => h) (Or.inl ⟨by rfl, fun W hW => ?_⟩) hS ?_
                          rotate_left
                          · obtain ⟨hw1, hw2⟩ := hW; go_simp; (try go_bits); (try rw [if_pos (by omega)]); (try with_reducible rfl)
                          (try simp only [Act.put, List.setIfInBounds_toArray, List.set_cons_succ, List.set_cons_zero])
                          refine wpE_take (i := 2) (oi := { dst := some 184, op := Go.Op.indexAddr 63 (Go.Operand.tmp 182) (Go.Operand.tmp 183), type := 0, pos := "law.go:168", after := #[{ on := 0, ground := Go.Ground.data }, { on := 1, ground := Go.Ground.data }], guard := none }) (v := ?_) rfl (by kernel_rfl) (fun _ _ _ h => h) (Or.inl ⟨by rfl, fun W hW => ?_⟩) hS ?_
                          rotate_left
                          · obtain ⟨hw1, hw2⟩ := hW; go_simp; (try go_bits); (try rw [if_pos (by omega)]); (try with_reducible rfl)
                          (try simp only [Act.put, List.setIfInBounds_toArray, List.set_cons_succ, List.set_cons_zero])
                          refine wpE_take (i := 3) (oi := { dst := some 185, op := Go.Op.load 5 (Go.Operand.tmp 184), type := 5, pos := "law.go:168", after := #[{ on := 2, ground := Go.Ground.data }], guard := none }) (v := ?_) rfl (by kernel_rfl) (fun _ _ _ h => h) (Or.inl ⟨by rfl, fun W hW => ?_⟩) hS ?_
                          rotate_left
                          · obtain ⟨hw1, hw2⟩ := hW; go_simp; (try go_bits); (try rw [if_pos (by omega)]); (try with_reducible rfl)
                          (try simp only [Act.put, List.setIfInBounds_toArray, List.set_cons_succ, List.set_cons_zero])
                          refine wpE_take (i := 4) (oi := { dst := some 186, op := Go.Op.move (Go.Operand.tmp 25), type := 63, pos := "law.go:168", after := #[], guard := none }) (v := ?_) rfl (by kernel_rfl) (fun _ _ _ h => h) (Or.inl ⟨by rfl, fun W hW => ?_⟩) hS ?_
                          rotate_left
                          · obtain ⟨hw1, hw2⟩ := hW; go_simp; (try go_bits); (try rw [if_pos (by omega)]); (try with_reducible rfl)
                          (try simp only [Act.put, List.setIfInBounds_toArray, List.set_cons_succ, List.set_cons_zero])
                          refine wpE_take (i := 5) (oi := { dst := some 187, op := Go.Op.move (Go.Operand.tmp 27), type := 23, pos := "law.go:168", after := #[], guard := none }) (v := ?_) rfl (by kernel_rfl) (fun _ _ _ h => h) (Or.inl ⟨by rfl, fun W hW => ?_⟩) hS ?_
                          rotate_left
                          · obtain ⟨hw1, hw2⟩ := hW; go_simp; (try go_bits); (try rw [if_pos (by omega)]); (try with_reducible rfl)
                          (try simp only [Act.put, List.setIfInBounds_toArray, List.set_cons_succ, List.set_cons_zero])
                          refine wpE_take (i := 6) (oi := { dst := some 188, op := Go.Op.indexAddr 63 (Go.Operand.tmp 186) (Go.Operand.tmp 187), type := 0, pos := "law.go:168", after := #[{ on := 4, ground := Go.Ground.data }, { on := 5, ground := Go.Ground.data }], guard := none }) (v := ?_) rfl (by kernel_rfl) (fun _ _ _ h => h) (Or.inl ⟨by rfl, fun W hW => ?_⟩) hS ?_
                          rotate_left
                          · obtain ⟨hw1, hw2⟩ := hW; go_simp; (try go_bits); (try rw [if_pos (by omega)]); (try with_reducible rfl)
                          (try simp only [Act.put, List.setIfInBounds_toArray, List.set_cons_succ, List.set_cons_zero])
                          refine wpE_take (i := 7) (oi := { dst := some 189, op := Go.Op.load 5 (Go.Operand.tmp 188), type := 5, pos := "law.go:168", after := #[{ on := 6, ground := Go.Ground.data }], guard := none }) (v := ?_) rfl (by kernel_rfl) (fun _ _ _ h => h) (Or.inl ⟨by rfl, fun W hW => ?_⟩) hS ?_
                          rotate_left
                          · obtain ⟨hw1, hw2⟩ := hW; go_simp; (try go_bits); (try rw [if_pos (by omega)]); (try with_reducible rfl)
                          (try simp only [Act.put, List.setIfInBounds_toArray, List.set_cons_succ, List.set_cons_zero])
                          refine wpE_take (i := 8) (oi := { dst := some 190, op := Go.Op.binOp Go.BinOp.neq 5 (Go.Operand.tmp 185) (Go.Operand.tmp 189) 5, type := 4, pos := "law.go:168", after := #[{ on := 3, ground := Go.Ground.data }, { on := 7, ground := Go.Ground.data }], guard := none }) (v := .bool true) rfl (by kernel_rfl) (fun _ _ _ h => h) (Or.inl ⟨by rfl, fun W hW => ?_⟩) hS ?_
                          · obtain ⟨hw1, hw2⟩ := hW; go_simp; (try go_bits); (try rw [if_pos (by omega)]); (try with_reducible rfl)
                          (try simp only [Act.put, List.setIfInBounds_toArray, List.set_cons_succ, List.set_cons_zero])
                          refine wpE_take (i := 9) (oi := { dst := some 191, op := Go.Op.move (Go.Operand.tmp 190), type := 4, pos := "law.go:168", after := #[{ on := 8, ground := Go.Ground.data }], guard := none }) (v := .bool true) rfl (by kernel_rfl) (fun _ _ _ h => h) (Or.inl ⟨by rfl, fun W hW => ?_⟩) hS ?_
                          · obtain ⟨hw1, hw2⟩ := hW; go_simp; (try go_bits); (try rw [if_pos (by omega)]); (try with_reducible rfl)
                          (try simp only [Act.put, List.setIfInBounds_toArray, List.set_cons_succ, List.set_cons_zero])
                          refine wpE_take (i := 10) (oi := { dst := some 192, op := Go.Op.move (Go.Operand.tmp 17), type := 4, pos := "law.go:168", after := #[{ on := 9, ground := Go.Ground.guard }], guard := some (9, true) }) (v := ?_) rfl (by kernel_rfl) (fun _ _ _ h => h) (Or.inl ⟨by rfl, fun W hW => ?_⟩) hS ?_
                          rotate_left
                          · obtain ⟨hw1, hw2⟩ := hW; go_simp; (try go_bits); (try rw [if_pos (by omega)]); (try with_reducible rfl)
                          (try simp only [Act.put, List.setIfInBounds_toArray, List.set_cons_succ, List.set_cons_zero])
                          refine wpE_take (i := 11) (oi := { dst := some 193, op := Go.Op.unOp Go.UnOp.not 4 (Go.Operand.tmp 192), type := 4, pos := "law.go:168", after := #[{ on := 10, ground := Go.Ground.data }, { on := 9, ground := Go.Ground.guard }], guard := some (9, true) }) (v := .bool false) rfl (by kernel_rfl) (fun _ _ _ h => h) (Or.inl ⟨by rfl, fun W hW => ?_⟩) hS ?_
                          · obtain ⟨hw1, hw2⟩ := hW; go_simp; (try go_bits); (try rw [if_pos (by omega)]); (try with_reducible rfl)
                          (try simp only [Act.put, List.setIfInBounds_toArray, List.set_cons_succ, List.set_cons_zero])
                          refine wpE_take (i := 12) (oi := { dst := some 194, op := Go.Op.move (Go.Operand.tmp 193), type := 4, pos := "law.go:168", after := #[{ on := 11, ground := Go.Ground.data }, { on := 9, ground := Go.Ground.chain }, { on := 9, ground := Go.Ground.guard }], guard := some (9, true) }) (v := .bool false) rfl (by kernel_rfl) (fun _ _ _ h => h) (Or.inl ⟨by rfl, fun W hW => ?_⟩) hS ?_
                          · obtain ⟨hw1, hw2⟩ := hW; go_simp; (try go_bits); (try rw [if_pos (by omega)]); (try with_reducible rfl)
                          (try simp only [Act.put, List.setIfInBounds_toArray, List.set_cons_succ, List.set_cons_zero])
                          refine wpE_take (i := 13) (oi := { dst := some 195, op := Go.Op.move (Go.Operand.tmp 19), type := 4, pos := "law.go:168", after := #[{ on := 12, ground := Go.Ground.guard }], guard := some (12, false) }) (v := ?_) rfl (by kernel_rfl) (fun _ _ _ h => h) (Or.inl ⟨by rfl, fun W hW => ?_⟩) hS ?_
                          rotate_left
                          · obtain ⟨hw1, hw2⟩ := hW; go_simp; (try go_bits); (try rw [if_pos (by omega)]); (try with_reducible rfl)
                          (try simp only [Act.put, List.setIfInBounds_toArray, List.set_cons_succ, List.set_cons_zero])
                          refine wpE_take (i := 14) (oi := { dst := some 196, op := Go.Op.unOp Go.UnOp.not 4 (Go.Operand.tmp 195), type := 4, pos := "law.go:168", after := #[{ on := 13, ground := Go.Ground.data }, { on := 12, ground := Go.Ground.guard }], guard := some (12, false) }) (v := .bool false) rfl (by kernel_rfl) (fun _ _ _ h => h) (Or.inl ⟨by rfl, fun W hW => ?_⟩) hS ?_
                          · obtain ⟨hw1, hw2⟩ := hW; go_simp; (try go_bits); (try rw [if_pos (by omega)]); (try with_reducible rfl)
                          (try simp only [Act.put, List.setIfInBounds_toArray, List.set_cons_succ, List.set_cons_zero])
                          refine wpE_take (i := 15) (oi := { dst := some 197, op := Go.Op.pick (Go.Operand.tmp 194) (Go.Operand.const (Go.Value.bool true)) (Go.Operand.tmp 196), type := 4, pos := "law.go:168", after := #[{ on := 12, ground := Go.Ground.data }, { on := 14, ground := Go.Ground.data }, { on := 9, ground := Go.Ground.guard }], guard := some (9, true) }) (v := .bool false) rfl (by kernel_rfl) (fun _ _ _ h => h) (Or.inl ⟨by rfl, fun W hW => ?_⟩) hS ?_
                          · obtain ⟨hw1, hw2⟩ := hW; go_simp; (try go_bits); (try rw [if_pos (by omega)]); (try with_reducible rfl)
                          (try simp only [Act.put, List.setIfInBounds_toArray, List.set_cons_succ, List.set_cons_zero])
                          refine wpE_take (i := 16) (oi := { dst := some 198, op := Go.Op.move (Go.Operand.tmp 197), type := 4, pos := "law.go:168", after := #[{ on := 15, ground := Go.Ground.data }, { on := 12, ground := Go.Ground.chain }, { on := 9, ground := Go.Ground.guard }], guard := some (9, true) }) (v := .bool false) rfl (by kernel_rfl) (fun _ _ _ h => h) (Or.inl ⟨by rfl, fun W hW => ?_⟩) hS ?_
                          · obtain ⟨hw1, hw2⟩ := hW; go_simp; (try go_bits); (try rw [if_pos (by omega)]); (try with_reducible rfl)
                          (try simp only [Act.put, List.setIfInBounds_toArray, List.set_cons_succ, List.set_cons_zero])
                          refine wpE_take (i := 17) (oi := { dst := some 199, op := Go.Op.move (Go.Operand.tmp 28), type := 23, pos := "law.go:168", after := #[{ on := 16, ground := Go.Ground.guard }], guard := some (16, false) }) (v := ?_) rfl (by kernel_rfl) (fun _ _ _ h => h) (Or.inl ⟨by rfl, fun W hW => ?_⟩) hS ?_
                          rotate_left
                          · obtain ⟨hw1, hw2⟩ := hW; go_simp; (try go_bits); (try rw [if_pos (by omega)]); (try with_reducible rfl)
                          (try simp only [Act.put, List.setIfInBounds_toArray, List.set_cons_succ, List.set_cons_zero])
                          refine wpE_take (i := 18) (oi := { dst := some 200, op := Go.Op.move (Go.Operand.tmp 18), type := 23, pos := "law.go:168", after := #[{ on := 16, ground := Go.Ground.guard }], guard := some (16, false) }) (v := ?_) rfl (by kernel_rfl) (fun _ _ _ h => h) (Or.inl ⟨by rfl, fun W hW => ?_⟩) hS ?_
                          rotate_left
                          · obtain ⟨hw1, hw2⟩ := hW; go_simp; (try go_bits); (try rw [if_pos (by omega)]); (try with_reducible rfl)
                          (try simp only [Act.put, List.setIfInBounds_toArray, List.set_cons_succ, List.set_cons_zero])
                          refine wpE_take (i := 19) (oi := { dst := some 201, op := Go.Op.binOp Go.BinOp.lss 23 (Go.Operand.tmp 199) (Go.Operand.tmp 200) 23, type := 4, pos := "law.go:168", after := #[{ on := 17, ground := Go.Ground.data }, { on := 18, ground := Go.Ground.data }, { on := 16, ground := Go.Ground.guard }], guard := some (16, false) }) (v := .bool false) rfl (by kernel_rfl) (fun _ _ _ h => h) (Or.inl ⟨by rfl, fun W hW => ?_⟩) hS ?_
                          · obtain ⟨hw1, hw2⟩ := hW; go_simp; (try go_bits); (try rw [if_pos (by omega)]); (try with_reducible rfl)
                          (try simp only [Act.put, List.setIfInBounds_toArray, List.set_cons_succ, List.set_cons_zero])
                          refine wpE_take (i := 20) (oi := { dst := some 202, op := Go.Op.pick (Go.Operand.tmp 198) (Go.Operand.const (Go.Value.bool true)) (Go.Operand.tmp 201), type := 4, pos := "law.go:168", after := #[{ on := 16, ground := Go.Ground.data }, { on := 19, ground := Go.Ground.data }, { on := 9, ground := Go.Ground.guard }], guard := some (9, true) }) (v := .bool false) rfl (by kernel_rfl) (fun _ _ _ h => h) (Or.inl ⟨by rfl, fun W hW => ?_⟩) hS ?_
                          · obtain ⟨hw1, hw2⟩ := hW; go_simp; (try go_bits); (try rw [if_pos (by omega)]); (try with_reducible rfl)
                          (try simp only [Act.put, List.setIfInBounds_toArray, List.set_cons_succ, List.set_cons_zero])
                          refine wpE_take (i := 21) (oi := { dst := some 203, op := Go.Op.move (Go.Operand.tmp 202), type := 4, pos := "law.go:168", after := #[{ on := 20, ground := Go.Ground.data }, { on := 16, ground := Go.Ground.chain }, { on := 9, ground := Go.Ground.guard }], guard := some (9, true) }) (v := .bool false) rfl (by kernel_rfl) (fun _ _ _ h => h) (Or.inl ⟨by rfl, fun W hW => ?_⟩) hS ?_
                          · obtain ⟨hw1, hw2⟩ := hW; go_simp; (try go_bits); (try rw [if_pos (by omega)]); (try with_reducible rfl)
                          (try simp only [Act.put, List.setIfInBounds_toArray, List.set_cons_succ, List.set_cons_zero])
                          refine wpE_take (i := 22) (oi := { dst := some 204, op := Go.Op.move (Go.Operand.tmp 28), type := 23, pos := "law.go:168", after := #[{ on := 21, ground := Go.Ground.guard }], guard := some (21, false) }) (v := ?_) rfl (by kernel_rfl) (fun _ _ _ h => h) (Or.inl ⟨by rfl, fun W hW => ?_⟩) hS ?_
                          rotate_left
                          · obtain ⟨hw1, hw2⟩ := hW; go_simp; (try go_bits); (try rw [if_pos (by omega)]); (try with_reducible rfl)
                          (try simp only [Act.put, List.setIfInBounds_toArray, List.set_cons_succ, List.set_cons_zero])
                          refine wpE_take (i := 23) (oi := { dst := some 205, op := Go.Op.move (Go.Operand.tmp 18), type := 23, pos := "law.go:168", after := #[{ on := 21, ground := Go.Ground.guard }], guard := some (21, false) }) (v := ?_) rfl (by kernel_rfl) (fun _ _ _ h => h) (Or.inl ⟨by rfl, fun W hW => ?_⟩) hS ?_
                          rotate_left
                          · obtain ⟨hw1, hw2⟩ := hW; go_simp; (try go_bits); (try rw [if_pos (by omega)]); (try with_reducible rfl)
                          (try simp only [Act.put, List.setIfInBounds_toArray, List.set_cons_succ, List.set_cons_zero])
                          refine wpE_take (i := 24) (oi := { dst := some 206, op := Go.Op.binOp Go.BinOp.add 23 (Go.Operand.tmp 205) (Go.Operand.const (Go.Value.int Go.IntKind.u64 8)) 23, type := 23, pos := "law.go:168", after := #[{ on := 23, ground := Go.Ground.data }, { on := 21, ground := Go.Ground.guard }], guard := some (21, false) }) (v := ?_) rfl (by kernel_rfl) (fun _ _ _ h => h) (Or.inl ⟨by rfl, fun W hW => ?_⟩) hS ?_
                          rotate_left
                          · obtain ⟨hw1, hw2⟩ := hW; go_simp; (try go_bits); (try rw [if_pos (by omega)]); (try with_reducible rfl)
                          (try simp only [Act.put, List.setIfInBounds_toArray, List.set_cons_succ, List.set_cons_zero])
                          refine wpE_take (i := 25) (oi := { dst := some 207, op := Go.Op.binOp Go.BinOp.geq 23 (Go.Operand.tmp 204) (Go.Operand.tmp 206) 23, type := 4, pos := "law.go:168", after := #[{ on := 22, ground := Go.Ground.data }, { on := 24, ground := Go.Ground.data }, { on := 21, ground := Go.Ground.guard }], guard := some (21, false) }) (v := .bool false) rfl (by kernel_rfl) (fun _ _ _ h => h) (Or.inl ⟨by rfl, fun W hW => ?_⟩) hS ?_
                          · obtain ⟨hw1, hw2⟩ := hW; go_simp; (try go_bits); (try rw [if_pos (by omega)]); (try with_reducible rfl)
                          (try simp only [Act.put, List.setIfInBounds_toArray, List.set_cons_succ, List.set_cons_zero])
                          refine wpE_take (i := 26) (oi := { dst := some 208, op := Go.Op.pick (Go.Operand.tmp 203) (Go.Operand.const (Go.Value.bool true)) (Go.Operand.tmp 207), type := 4, pos := "law.go:168", after := #[{ on := 21, ground := Go.Ground.data }, { on := 25, ground := Go.Ground.data }, { on := 9, ground := Go.Ground.guard }], guard := some (9, true) }) (v := .bool false) rfl (by kernel_rfl) (fun _ _ _ h => h) (Or.inl ⟨by rfl, fun W hW => ?_⟩) hS ?_
                          · obtain ⟨hw1, hw2⟩ := hW; go_simp; (try go_bits); (try rw [if_pos (by omega)]); (try with_reducible rfl)
                          (try simp only [Act.put, List.setIfInBounds_toArray, List.set_cons_succ, List.set_cons_zero])
                          refine wpE_last (oi := { dst := some 209, op := Go.Op.pick (Go.Operand.tmp 191) (Go.Operand.tmp 208) (Go.Operand.const (Go.Value.bool false)), type := 4, pos := "law.go:168", after := #[{ on := 9, ground := Go.Ground.data }, { on := 26, ground := Go.Ground.data }], guard := none }) rfl (by kernel_rfl) (by kernel_rfl) (by rfl) (fun K hK => ?_)
                          go_simp; (try go_bits); refine hK _ _ ?_; clear hK K
                          go_wp2
                          exact ⟨⟨k + 1, by go_num, by omega, qn + 1, rfl⟩, by simp [intOf]; omega⟩
                      · obtain rfl : k = 4096 := by omega
                        rw [show ((4096 : Nat) : Int) = 4096 from rfl]
                        have H17 := Lib.hid (show ∃ own', PB wr own' (w16.drewN qn) e p rp tp 8 3 sb ub ∧ MemAt ramK own' 70 (w16.drewN qn) pc 0 8 um ∧ (Blk (w16.drewN qn) xo 36 #[.pointer (some ⟨p, 0, none⟩), .pointer (some ⟨q, 0, none⟩), .pointer (some ⟨rp, 0, none⟩), .pointer (some ⟨p2, 0, none⟩)] ∧ own' xo = 50) from ⟨own16, H16.out.1.none_ ((Step.refl (fun _ => False) _ _).drewN qn), H16.out.2.1.drewN qn, ((Step.refl (fun _ => False) own16 w16).drewN qn).blk H16.out.2.2.1 H16.out.2.2.2 (fun h => h)⟩)
                        clear H16 HCC hl1 hl2 hk4
                        go_wp2
                        exact ⟨⟨f + 1, by go_num, by omega, H17.out⟩, by simp [intOf]; omega⟩
                  · obtain rfl : f = 7 := by omega
                    rw [show ((7 : Nat) : Int) = 7 from rfl]
                    have H9 := Lib.hid (HU.out.1.trans' hB.upd (fun _ _ h => h))
                    clear hB hMc hO HR hlt
                    go_wp2_with fail
                    ((with_reducible refine (awake08 _).mono ?_); rintro x w23 ⟨rfl, hU23⟩)
                    have HE := Lib.hid (H9.out.trans' hU23 (fun _ _ e => e))
                    clear hU23 H9
                    go_wp2
                    go_ret
                    exact ⟨rfl, HE.out⟩
          · rw [decide_eq_false hs] at HBu
            go_wp2_with fail
            ((with_reducible refine HBu.out.mono ?_); rintro x wz ⟨rfl, rfl⟩)
            clear HBu
            have HBq := Lib.hid (show PB wr own8 w8 e p rp tp 8 3 s ⟨sB root, M0, []⟩ ∧ SdU ⟨sB root, M0, []⟩ root ∧ SameLow M0 M0 ∧ (Blk w8 xo 36 #[.pointer (some ⟨p, 0, none⟩), .pointer (some ⟨q, 0, none⟩), .pointer (some ⟨rp, 0, none⟩), .pointer (some ⟨p2, 0, none⟩)] ∧ own8 xo = 50) from ⟨H8.out.1, H8.out.2.2.1, SameLow.refl _, H8.out.2.1⟩)
            have HDF := Lib.hid (fun x (hx : x < 28672) (hne : (stepU 8 3 [] ⟨sB root, M0, []⟩ s).m x ≠ M0 x) => step_turns H8.out.2.2.1 H8.out.2.2.1 (SameLow.refl _) 8 3 [] s x hx hne)
            have x2 := H8.out.2.1.1.cell 2
            simp only [List.getElem?_toArray, List.getElem?_cons_zero, List.getElem?_cons_succ] at x2
            clear H8
            have HCp := Lib.hid (ram_Copy (d := 70) (show PA own8 w8 p rp tp 8 (⟨sB root, M0, []⟩ : Uv).s (⟨sB root, M0, []⟩ : Uv).m (⟨sB root, M0, []⟩ : Uv).l from HBq.out.1.pa).mm (by decide))
            go_wp2_with fail
            ((with_reducible refine HCp.out.mono ?_); rintro y w12 ⟨pc, own12, rfl, hS12, hMc⟩)
            have hB12 := HBq.out.1.none_ hS12
            have hO12 := hS12.blk HBq.out.2.2.2.1 HBq.out.2.2.2.2 (fun h => h)
            have HSt := Lib.hid (hB12.stepE [] rfl)
            have H12 := Lib.hid (And.intro hMc hO12)
            clear HCp hS12 hMc hB12 hO12 HBq
            go_wp2_with fail
            ((with_reducible refine HSt.out.mono ?_); rintro y w13 ⟨rfl, own13, hS13, hB13⟩)
            have hMc13 : MemAt ramK own13 70 w13 pc 0 8 M0 := H12.out.1.step hS13 (by decide)
            have hO13 := hS13.blk H12.out.2.1 H12.out.2.2 (by decide)
            obtain ⟨ub, hub⟩ : ∃ ub, stepU 8 3 [] ⟨sB root, M0, []⟩ s = ub := ⟨_, rfl⟩
            obtain ⟨sb, hsb⟩ : ∃ sb, stepX 8 3 ⟨sB root, M0, []⟩ s = sb := ⟨_, rfl⟩
            rw [hub, hsb] at hB13
            have HDG := Lib.hid (show ∀ x, x < 28672 → ub.m x ≠ M0 x → _ from fun x hx hne => HDF.out x hx (by rw [hub]; exact hne))
            have H13 := Lib.hid (show ∃ own', PB wr own' w13 e p rp tp 8 3 sb ub ∧ MemAt ramK own' 70 w13 pc 0 8 M0 ∧ (Blk w13 xo 36 #[.pointer (some ⟨p, 0, none⟩), .pointer (some ⟨q, 0, none⟩), .pointer (some ⟨rp, 0, none⟩), .pointer (some ⟨p2, 0, none⟩)] ∧ own' xo = 50) from ⟨own13, hB13, hMc13, hO13⟩)
            obtain ⟨um, hum⟩ : ∃ um : Nat → Int, M0 = um := ⟨_, rfl⟩
            rw [hum] at H13 HDG
            clear HSt hS13 hB13 hMc13 hO13 H12 hub hsb HDF hum x2
            go_wp2
            go_loopw [22] (fun i wf => ∃ (f : Nat), i = .int .u64 (f : Int) ∧ f ≤ 7 ∧ Hid (∃ own', PB wr own' wf e p rp tp 8 3 sb ub ∧ MemAt ramK own' 70 wf pc 0 8 um ∧ (Blk wf xo 36 #[.pointer (some ⟨p, 0, none⟩), .pointer (some ⟨q, 0, none⟩), .pointer (some ⟨rp, 0, none⟩), .pointer (some ⟨p2, 0, none⟩)] ∧ own' xo = 50))) (fun i _ => 7 - (intOf i).toNat)
            case atStart => exact ⟨0, rfl, by omega, H13.out⟩
            case round =>
              rename World => wf
              obtain ⟨f, rfl, hf, HR⟩ := hrel
              clear H13
              obtain ⟨own14, hB, hMc, hO⟩ := HR.out
              by_cases hlt : f < 7
              · have hlt' : decide ((f : Int) < 7) = true := by simp; omega
                have hBy := ram_Bytes' hMc (f * 4096) 4096 71 (by omega) (by decide) ((f : Int) * 4096) (by omega)
                rw [show ((4096 : Nat) : Int) = 4096 from rfl] at hBy
                have HBy := Lib.hid hBy
                have H14 := Lib.hid (And.intro hB (And.intro hMc hO))
                clear hB hMc hO hBy HR
                go_wp2_with fail
                ((with_reducible refine HBy.out.mono ?_); rintro y w15 ⟨b1, own15, rfl, hS15, hob1, hBA1⟩)
                have hB15 := H14.out.1.none_ hS15
                have hMc15 := H14.out.2.1.step hS15 (fun h => h)
                have hO15 := hS15.blk H14.out.2.2.1 H14.out.2.2.2 (fun h => h)
                have hBy := ram_Bytes' (show PA own15 w15 p rp tp 8 ub.s ub.m ub.l from hB15.pa).mm (f * 4096) 4096 72 (by omega) (by decide) ((f : Int) * 4096) (by omega)
                rw [show ((4096 : Nat) : Int) = 4096 from rfl] at hBy
                have HB2 := Lib.hid hBy
                have x2 := hO15.1.cell 2
                simp only [List.getElem?_toArray, List.getElem?_cons_zero, List.getElem?_cons_succ] at x2
                have H15 := Lib.hid (And.intro hB15 (And.intro hMc15 (And.intro hO15 (And.intro hob1 hBA1))))
                clear HBy H14 hS15 hob1 hBA1 hB15 hMc15 hO15 hBy
                go_wp2_with fail
                ((with_reducible refine HB2.out.mono ?_); rintro y w16 ⟨b2, own16, rfl, hS16, hob2, hBA2⟩)
                have hB16 := H15.out.1.none_ hS16
                have hMc16 := H15.out.2.1.step hS16 (fun h => h)
                have hO16 := hS16.blk H15.out.2.2.1.1 H15.out.2.2.1.2 (fun h => h)
                obtain ⟨cc, hBk, hcs, hcc⟩ := H15.out.2.2.2.2
                obtain ⟨k1, _⟩ := hS16.blk hBk H15.out.2.2.2.1 (fun h => h)
                obtain ⟨cc2, hBk2, hcs2, hcc2⟩ := hBA2
                have HCC := Lib.hid (show ∀ k, k < 4096 → w16.cell? ⟨b1, k, none⟩ = some (.int .u8 (um (f * 4096 + k))) ∧ w16.cell? ⟨b2, k, none⟩ = some (.int .u8 (ub.m (f * 4096 + k))) from fun k hk => ⟨by rw [k1.cell, hcc k hk], by rw [hBk2.cell, hcc2 k hk]⟩)
                have hl1 := k1.lt
                have hl2 := hBk2.lt
                have H16 := Lib.hid (And.intro hB16 (And.intro hMc16 hO16))
                clear HB2 H15 hS16 hob2 hB16 hMc16 hO16 hBk hcs hcc k1 hBk2 hcs2 hcc2 x2
                go_wp2
                go_loopw [27] (fun i wk => ∃ (k qn : Nat), i = .int .u64 (k : Int) ∧ k ≤ 4096 ∧ wk = w16.drewN qn) (fun i _ => 4096 - (intOf i).toNat)
                case atStart => exact ⟨0, 0, rfl, by omega, rfl⟩
                case round =>
                  obtain ⟨k, qn, rfl, hk, rfl⟩ := hrel
                  by_cases hk4 : k < 4096
                  · have hk4' : decide ((k : Int) < 4096) = true := by simp; omega
                    obtain ⟨e1, e2⟩ := HCC.out k hk4
                    have e1 : (w16.drewN qn).cell? ⟨b1, k, none⟩ = some (.int .u8 (um (f * 4096 + k))) := e1
                    have e2 : (w16.drewN qn).cell? ⟨b2, k, none⟩ = some (.int .u8 (ub.m (f * 4096 + k))) := e2
                    obtain ⟨X, hX⟩ : ∃ X, um (f * 4096 + k) = X := ⟨_, rfl⟩
                    obtain ⟨Y, hY⟩ : ∃ Y, ub.m (f * 4096 + k) = Y := ⟨_, rfl⟩
                    have hgo := HDG.out (f * 4096 + k) (by omega)
                    rw [hX, hY] at hgo
                    rw [hX] at e1
                    rw [hY] at e2
                    by_cases hxy : X = Y
                    · have hne : (X != Y) = false := by rw [hxy]; simp
                      clear hgo hX hY
                      go_wp2_with fail
                      refine wpE_region (S := fun (W' : World) => W'.cell? ⟨b1, k, none⟩ = some (.int .u8 X) ∧ W'.cell? ⟨b2, k, none⟩ = some (.int .u8 Y)) (s := 27) (by kernel_rfl) ?_
                      have hS : (fun (W' : World) => W'.cell? ⟨b1, k, none⟩ = some (.int .u8 X) ∧ W'.cell? ⟨b2, k, none⟩ = some (.int .u8 Y)) _ := ⟨e1, e2⟩
                      refine wpE_take (i := 0) (oi := { dst := some 182, op := Go.Op.move (Go.Operand.tmp 23), type := 63, pos := "law.go:168", after := #[], guard := none }) (v := ?_) rfl (by kernel_rfl) (fun _ _ _ h => h) (Or.inl ⟨by rfl, fun W hW => ?_⟩) hS ?_
                      rotate_left
                      · obtain ⟨hw1, hw2⟩ := hW; go_simp; (try go_bits); (try rw [if_pos (by omega)]); (try with_reducible rfl)
                      (try simp only [Act.put, List.setIfInBounds_toArray, List.set_cons_succ, List.set_cons_zero])
                      refine wpE_take (i := 1) (oi := { dst := some 183, op := Go.Op.move (Go.Operand.tmp 27), type := 23, pos := "law.go:168", after := #[], guard := none }) (v := ?_) rfl (by kernel_rfl) (fun _ _ _ h => h) (Or.inl ⟨by rfl, fun W hW => ?_⟩) hS ?_
                      rotate_left
                      · obtain ⟨hw1, hw2⟩ := hW; go_simp; (try go_bits); (try rw [if_pos (by omega)]); (try with_reducible rfl)
                      (try simp only [Act.put, List.setIfInBounds_toArray, List.set_cons_succ, List.set_cons_zero])
                      refine wpE_take (i := 2) (oi := { dst := some 184, op := Go.Op.indexAddr 63 (Go.Operand.tmp 182) (Go.Operand.tmp 183), type := 0, pos := "law.go:168", after := #[{ on := 0, ground := Go.Ground.data }, { on := 1, ground := Go.Ground.data }], guard := none }) (v := ?_) rfl (by kernel_rfl) (fun _ _ _ h => h) (Or.inl ⟨by rfl, fun W hW => ?_⟩) hS ?_
                      rotate_left
                      · obtain ⟨hw1, hw2⟩ := hW; go_simp; (try go_bits); (try rw [if_pos (by omega)]); (try with_reducible rfl)
                      (try simp only [Act.put, List.setIfInBounds_toArray, List.set_cons_succ, List.set_cons_zero])
                      refine wpE_take (i := 3) (oi := { dst := some 185, op := Go.Op.load 5 (Go.Operand.tmp 184), type := 5, pos := "law.go:168", after := #[{ on := 2, ground := Go.Ground.data }], guard := none }) (v := ?_) rfl (by kernel_rfl) (fun _ _ _ h => h) (Or.inl ⟨by rfl, fun W hW => ?_⟩) hS ?_
                      rotate_left
                      · obtain ⟨hw1, hw2⟩ := hW; go_simp; (try go_bits); (try rw [if_pos (by omega)]); (try with_reducible rfl)
                      (try simp only [Act.put, List.setIfInBounds_toArray, List.set_cons_succ, List.set_cons_zero])
                      refine wpE_take (i := 4) (oi := { dst := some 186, op := Go.Op.move (Go.Operand.tmp 25), type := 63, pos := "law.go:168", after := #[], guard := none }) (v := ?_) rfl (by kernel_rfl) (fun _ _ _ h => h) (Or.inl ⟨by rfl, fun W hW => ?_⟩) hS ?_
                      rotate_left
                      · obtain ⟨hw1, hw2⟩ := hW; go_simp; (try go_bits); (try rw [if_pos (by omega)]); (try with_reducible rfl)
                      (try simp only [Act.put, List.setIfInBounds_toArray, List.set_cons_succ, List.set_cons_zero])
                      refine wpE_take (i := 5) (oi := { dst := some 187, op := Go.Op.move (Go.Operand.tmp 27), type := 23, pos := "law.go:168", after := #[], guard := none }) (v := ?_) rfl (by kernel_rfl) (fun _ _ _ h => h) (Or.inl ⟨by rfl, fun W hW => ?_⟩) hS ?_
                      rotate_left
                      · obtain ⟨hw1, hw2⟩ := hW; go_simp; (try go_bits); (try rw [if_pos (by omega)]); (try with_reducible rfl)
                      (try simp only [Act.put, List.setIfInBounds_toArray, List.set_cons_succ, List.set_cons_zero])
                      refine wpE_take (i := 6) (oi := { dst := some 188, op := Go.Op.indexAddr 63 (Go.Operand.tmp 186) (Go.Operand.tmp 187), type := 0, pos := "law.go:168", after := #[{ on := 4, ground := Go.Ground.data }, { on := 5, ground := Go.Ground.data }], guard := none }) (v := ?_) rfl (by kernel_rfl) (fun _ _ _ h => h) (Or.inl ⟨by rfl, fun W hW => ?_⟩) hS ?_
                      rotate_left
                      · obtain ⟨hw1, hw2⟩ := hW; go_simp; (try go_bits); (try rw [if_pos (by omega)]); (try with_reducible rfl)
                      (try simp only [Act.put, List.setIfInBounds_toArray, List.set_cons_succ, List.set_cons_zero])
                      refine wpE_take (i := 7) (oi := { dst := some 189, op := Go.Op.load 5 (Go.Operand.tmp 188), type := 5, pos := "law.go:168", after := #[{ on := 6, ground := Go.Ground.data }], guard := none }) (v := ?_) rfl (by kernel_rfl) (fun _ _ _ h => h) (Or.inl ⟨by rfl, fun W hW => ?_⟩) hS ?_
                      rotate_left
                      · obtain ⟨hw1, hw2⟩ := hW; go_simp; (try go_bits); (try rw [if_pos (by omega)]); (try with_reducible rfl)
                      (try simp only [Act.put, List.setIfInBounds_toArray, List.set_cons_succ, List.set_cons_zero])
                      refine wpE_take (i := 8) (oi := { dst := some 190, op := Go.Op.binOp Go.BinOp.neq 5 (Go.Operand.tmp 185) (Go.Operand.tmp 189) 5, type := 4, pos := "law.go:168", after := #[{ on := 3, ground := Go.Ground.data }, { on := 7, ground := Go.Ground.data }], guard := none }) (v := .bool false) rfl (by kernel_rfl) (fun _ _ _ h => h) (Or.inl ⟨by rfl, fun W hW => ?_⟩) hS ?_
                      · obtain ⟨hw1, hw2⟩ := hW; go_simp; (try go_bits); (try rw [if_pos (by omega)]); (try with_reducible rfl)
                      (try simp only [Act.put, List.setIfInBounds_toArray, List.set_cons_succ, List.set_cons_zero])
                      refine wpE_take (i := 9) (oi := { dst := some 191, op := Go.Op.move (Go.Operand.tmp 190), type := 4, pos := "law.go:168", after := #[{ on := 8, ground := Go.Ground.data }], guard := none }) (v := .bool false) rfl (by kernel_rfl) (fun _ _ _ h => h) (Or.inl ⟨by rfl, fun W hW => ?_⟩) hS ?_
                      · obtain ⟨hw1, hw2⟩ := hW; go_simp; (try go_bits); (try rw [if_pos (by omega)]); (try with_reducible rfl)
                      (try simp only [Act.put, List.setIfInBounds_toArray, List.set_cons_succ, List.set_cons_zero])
                      refine wpE_take (i := 10) (oi := { dst := some 192, op := Go.Op.move (Go.Operand.tmp 17), type := 4, pos := "law.go:168", after := #[{ on := 9, ground := Go.Ground.guard }], guard := some (9, true) }) (v := undef) rfl (by kernel_rfl) (fun _ _ _ h => h) (Or.inr ⟨by rfl, rfl⟩) hS ?_
                      (try simp only [Act.put, List.setIfInBounds_toArray, List.set_cons_succ, List.set_cons_zero])
                      refine wpE_take (i := 11) (oi := { dst := some 193, op := Go.Op.unOp Go.UnOp.not 4 (Go.Operand.tmp 192), type := 4, pos := "law.go:168", after := #[{ on := 10, ground := Go.Ground.data }, { on := 9, ground := Go.Ground.guard }], guard := some (9, true) }) (v := undef) rfl (by kernel_rfl) (fun _ _ _ h => h) (Or.inr ⟨by rfl, rfl⟩) hS ?_
                      (try simp only [Act.put, List.setIfInBounds_toArray, List.set_cons_succ, List.set_cons_zero])
                      refine wpE_take (i := 12) (oi := { dst := some 194, op := Go.Op.move (Go.Operand.tmp 193), type := 4, pos := "law.go:168", after := #[{ on := 11, ground := Go.Ground.data }, { on := 9, ground := Go.Ground.chain }, { on := 9, ground := Go.Ground.guard }], guard := some (9, true) }) (v := undef) rfl (by kernel_rfl) (fun _ _ _ h => h) (Or.inr ⟨by rfl, rfl⟩) hS ?_
                      (try simp only [Act.put, List.setIfInBounds_toArray, List.set_cons_succ, List.set_cons_zero])
                      refine wpE_take (i := 13) (oi := { dst := some 195, op := Go.Op.move (Go.Operand.tmp 19), type := 4, pos := "law.go:168", after := #[{ on := 12, ground := Go.Ground.guard }], guard := some (12, false) }) (v := undef) rfl (by kernel_rfl) (fun _ _ _ h => h) (Or.inr ⟨by rfl, rfl⟩) hS ?_
                      (try simp only [Act.put, List.setIfInBounds_toArray, List.set_cons_succ, List.set_cons_zero])
                      refine wpE_take (i := 14) (oi := { dst := some 196, op := Go.Op.unOp Go.UnOp.not 4 (Go.Operand.tmp 195), type := 4, pos := "law.go:168", after := #[{ on := 13, ground := Go.Ground.data }, { on := 12, ground := Go.Ground.guard }], guard := some (12, false) }) (v := undef) rfl (by kernel_rfl) (fun _ _ _ h => h) (Or.inr ⟨by rfl, rfl⟩) hS ?_
                      (try simp only [Act.put, List.setIfInBounds_toArray, List.set_cons_succ, List.set_cons_zero])
                      refine wpE_take (i := 15) (oi := { dst := some 197, op := Go.Op.pick (Go.Operand.tmp 194) (Go.Operand.const (Go.Value.bool true)) (Go.Operand.tmp 196), type := 4, pos := "law.go:168", after := #[{ on := 12, ground := Go.Ground.data }, { on := 14, ground := Go.Ground.data }, { on := 9, ground := Go.Ground.guard }], guard := some (9, true) }) (v := undef) rfl (by kernel_rfl) (fun _ _ _ h => h) (Or.inr ⟨by rfl, rfl⟩) hS ?_
                      (try simp only [Act.put, List.setIfInBounds_toArray, List.set_cons_succ, List.set_cons_zero])
                      refine wpE_take (i := 16) (oi := { dst := some 198, op := Go.Op.move (Go.Operand.tmp 197), type := 4, pos := "law.go:168", after := #[{ on := 15, ground := Go.Ground.data }, { on := 12, ground := Go.Ground.chain }, { on := 9, ground := Go.Ground.guard }], guard := some (9, true) }) (v := undef) rfl (by kernel_rfl) (fun _ _ _ h => h) (Or.inr ⟨by rfl, rfl⟩) hS ?_
                      (try simp only [Act.put, List.setIfInBounds_toArray, List.set_cons_succ, List.set_cons_zero])
                      refine wpE_take (i := 17) (oi := { dst := some 199, op := Go.Op.move (Go.Operand.tmp 28), type := 23, pos := "law.go:168", after := #[{ on := 16, ground := Go.Ground.guard }], guard := some (16, false) }) (v := undef) rfl (by kernel_rfl) (fun _ _ _ h => h) (Or.inr ⟨by rfl, rfl⟩) hS ?_
                      (try simp only [Act.put, List.setIfInBounds_toArray, List.set_cons_succ, List.set_cons_zero])
                      refine wpE_take (i := 18) (oi := { dst := some 200, op := Go.Op.move (Go.Operand.tmp 18), type := 23, pos := "law.go:168", after := #[{ on := 16, ground := Go.Ground.guard }], guard := some (16, false) }) (v := undef) rfl (by kernel_rfl) (fun _ _ _ h => h) (Or.inr ⟨by rfl, rfl⟩) hS ?_
                      (try simp only [Act.put, List.setIfInBounds_toArray, List.set_cons_succ, List.set_cons_zero])
                      refine wpE_take (i := 19) (oi := { dst := some 201, op := Go.Op.binOp Go.BinOp.lss 23 (Go.Operand.tmp 199) (Go.Operand.tmp 200) 23, type := 4, pos := "law.go:168", after := #[{ on := 17, ground := Go.Ground.data }, { on := 18, ground := Go.Ground.data }, { on := 16, ground := Go.Ground.guard }], guard := some (16, false) }) (v := undef) rfl (by kernel_rfl) (fun _ _ _ h => h) (Or.inr ⟨by rfl, rfl⟩) hS ?_
                      (try simp only [Act.put, List.setIfInBounds_toArray, List.set_cons_succ, List.set_cons_zero])
                      refine wpE_take (i := 20) (oi := { dst := some 202, op := Go.Op.pick (Go.Operand.tmp 198) (Go.Operand.const (Go.Value.bool true)) (Go.Operand.tmp 201), type := 4, pos := "law.go:168", after := #[{ on := 16, ground := Go.Ground.data }, { on := 19, ground := Go.Ground.data }, { on := 9, ground := Go.Ground.guard }], guard := some (9, true) }) (v := undef) rfl (by kernel_rfl) (fun _ _ _ h => h) (Or.inr ⟨by rfl, rfl⟩) hS ?_
                      (try simp only [Act.put, List.setIfInBounds_toArray, List.set_cons_succ, List.set_cons_zero])
                      refine wpE_take (i := 21) (oi := { dst := some 203, op := Go.Op.move (Go.Operand.tmp 202), type := 4, pos := "law.go:168", after := #[{ on := 20, ground := Go.Ground.data }, { on := 16, ground := Go.Ground.chain }, { on := 9, ground := Go.Ground.guard }], guard := some (9, true) }) (v := undef) rfl (by kernel_rfl) (fun _ _ _ h => h) (Or.inr ⟨by rfl, rfl⟩) hS ?_
                      (try simp only [Act.put, List.setIfInBounds_toArray, List.set_cons_succ, List.set_cons_zero])
                      refine wpE_take (i := 22) (oi := { dst := some 204, op := Go.Op.move (Go.Operand.tmp 28), type := 23, pos := "law.go:168", after := #[{ on := 21, ground := Go.Ground.guard }], guard := some (21, false) }) (v := undef) rfl (by kernel_rfl) (fun _ _ _ h => h) (Or.inr ⟨by rfl, rfl⟩) hS ?_
                      (try simp only [Act.put, List.setIfInBounds_toArray, List.set_cons_succ, List.set_cons_zero])
                      refine wpE_take (i := 23) (oi := { dst := some 205, op := Go.Op.move (Go.Operand.tmp 18), type := 23, pos := "law.go:168", after := #[{ on := 21, ground := Go.Ground.guard }], guard := some (21, false) }) (v := undef) rfl (by kernel_rfl) (fun _ _ _ h => h) (Or.inr ⟨by rfl, rfl⟩) hS ?_
                      (try simp only [Act.put, List.setIfInBounds_toArray, List.set_cons_succ, List.set_cons_zero])
                      refine wpE_take (i := 24) (oi := { dst := some 206, op := Go.Op.binOp Go.BinOp.add 23 (Go.Operand.tmp 205) (Go.Operand.const (Go.Value.int Go.IntKind.u64 8)) 23, type := 23, pos := "law.go:168", after := #[{ on := 23, ground := Go.Ground.data }, { on := 21, ground := Go.Ground.guard }], guard := some (21, false) }) (v := undef) rfl (by kernel_rfl) (fun _ _ _ h => h) (Or.inr ⟨by rfl, rfl⟩) hS ?_
                      (try simp only [Act.put, List.setIfInBounds_toArray, List.set_cons_succ, List.set_cons_zero])
                      refine wpE_take (i := 25) (oi := { dst := some 207, op := Go.Op.binOp Go.BinOp.geq 23 (Go.Operand.tmp 204) (Go.Operand.tmp 206) 23, type := 4, pos := "law.go:168", after := #[{ on := 22, ground := Go.Ground.data }, { on := 24, ground := Go.Ground.data }, { on := 21, ground := Go.Ground.guard }], guard := some (21, false) }) (v := undef) rfl (by kernel_rfl) (fun _ _ _ h => h) (Or.inr ⟨by rfl, rfl⟩) hS ?_
                      (try simp only [Act.put, List.setIfInBounds_toArray, List.set_cons_succ, List.set_cons_zero])
                      refine wpE_take (i := 26) (oi := { dst := some 208, op := Go.Op.pick (Go.Operand.tmp 203) (Go.Operand.const (Go.Value.bool true)) (Go.Operand.tmp 207), type := 4, pos := "law.go:168", after := #[{ on := 21, ground := Go.Ground.data }, { on := 25, ground := Go.Ground.data }, { on := 9, ground := Go.Ground.guard }], guard := some (9, true) }) (v := undef) rfl (by kernel_rfl) (fun _ _ _ h => h) (Or.inr ⟨by rfl, rfl⟩) hS ?_
                      (try simp only [Act.put, List.setIfInBounds_toArray, List.set_cons_succ, List.set_cons_zero])
                      refine wpE_last (oi := { dst := some 209, op := Go.Op.pick (Go.Operand.tmp 191) (Go.Operand.tmp 208) (Go.Operand.const (Go.Value.bool false)), type := 4, pos := "law.go:168", after := #[{ on := 9, ground := Go.Ground.data }, { on := 26, ground := Go.Ground.data }], guard := none }) rfl (by kernel_rfl) (by kernel_rfl) (by rfl) (fun K hK => ?_)
                      go_simp; (try go_bits); refine hK _ _ ?_; clear hK K
                      go_wp2
                      exact ⟨⟨k + 1, qn + 1, by go_num, by omega, rfl⟩, by simp [intOf]; omega⟩
                    · exact absurd (hgo (fun h => hxy h.symm)).1 hs
                  · obtain rfl : k = 4096 := by omega
                    rw [show ((4096 : Nat) : Int) = 4096 from rfl]
                    have H17 := Lib.hid (show ∃ own', PB wr own' (w16.drewN qn) e p rp tp 8 3 sb ub ∧ MemAt ramK own' 70 (w16.drewN qn) pc 0 8 um ∧ (Blk (w16.drewN qn) xo 36 #[.pointer (some ⟨p, 0, none⟩), .pointer (some ⟨q, 0, none⟩), .pointer (some ⟨rp, 0, none⟩), .pointer (some ⟨p2, 0, none⟩)] ∧ own' xo = 50) from ⟨own16, H16.out.1.none_ ((Step.refl (fun _ => False) _ _).drewN qn), H16.out.2.1.drewN qn, ((Step.refl (fun _ => False) own16 w16).drewN qn).blk H16.out.2.2.1 H16.out.2.2.2 (fun h => h)⟩)
                    clear H16 HCC hl1 hl2 hk4
                    go_wp2
                    exact ⟨⟨f + 1, by go_num, by omega, H17.out⟩, by simp [intOf]; omega⟩
              · obtain rfl : f = 7 := by omega
                rw [show ((7 : Nat) : Int) = 7 from rfl]
                have H9 := Lib.hid (HU.out.1.trans' hB.upd (fun _ _ h => h))
                clear hB hMc hO HR hlt
                go_wp2_with fail
                ((with_reducible refine (awake08 _).mono ?_); rintro x w23 ⟨rfl, hU23⟩)
                have HE := Lib.hid (H9.out.trans' hU23 (fun _ _ e => e))
                clear hU23 H9
                go_wp2
                go_ret
                exact ⟨rfl, HE.out⟩
theorem bounds_callsI (w : World) (v : Value) (cs : List (Int × Nat)) (hv : CellsAt w v cs) (hlen : cs.length * 16 ≤ 140737488351232) (hb : ∀ x ∈ cs, -9223372036854775808 ≤ x.1 ∧ x.1 ≤ 9223372036854775807 ∧ x.2 < 18446744073709551616)
    (root0 : Int) (hr0 : 0 ≤ root0 ∧ root0 ≤ 18446744073709551615) (A : Option Addr) (cap : Nat) (L : List Op8) (hL : Ops8At w (.slice A L.length cap) L) (hLb : ∀ o ∈ L, Op8B o) (hLl : L.length ≤ maxLen) :
    Calls Tryz.prog 3 #[v, .int .u64 root0, .slice A L.length cap] w fun x w' => x = .returned (.bool true) ∧ Upd (fun _ => False) w w' := by
  obtain ⟨r, rfl⟩ := Int.eq_ofNat_of_zero_le hr0.1
  exact bounds_calls w v cs hv hlen hb r (by omega) A cap L hL hLb (by unfold maxLen at hLl; omega)
end Go.Proofs.YtonhlgfgbdiapaaGreat
