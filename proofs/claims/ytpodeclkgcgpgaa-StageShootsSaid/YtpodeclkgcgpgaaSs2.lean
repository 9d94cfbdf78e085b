import Derived.Test.YtpodeclkgcgpgaaSs
/- StageShoots' walk. -/
namespace Go.Proofs.Ytpodeclkgcgpgaa
set_option linter.unusedVariables false
set_option linter.unusedSimpArgs false
open Go.RowKit
set_option maxRecDepth 100000

def Op4s (xs : List Value) (i : Nat) (k a b v : Int) : Prop := xs[i * 4]? = some (.int .i64 k) ∧ xs[i * 4 + 1]? = some (.int .i64 a) ∧ xs[i * 4 + 2]? = some (.int .i64 b) ∧ xs[i * 4 + 3]? = some (.int .u64 v)
theorem servB_len (bs : List Nat) (k b : Nat) : (servB bs k b).length = bs.length := by unfold servB; split <;> simp
theorem bool_pos {n : Nat} (h : 0 < n) : Value.bool false = .bool (true && (n == 0)) := by
  cases n with
  | zero => omega
  | succ n => rfl
/-- both sides the same -/
def SB (w : World) (sp hp : Nat) (v1 : Value) (ps : List Nat) (v2 : Value) (us : List Nat) (wr : World) : Prop :=
  ∃ own' bs L, SS w own' wr sp hp bs bs v1 ps v2 us L L ∧ bs.length = ps.length ∧ Even bs
set_option maxHeartbeats 4000000 in
theorem shoots_calls (harts : Int) (hh : wfI harts) (A : Option Addr) (cap m : Nat) (xs : List Value) (w : World)
    (hrd : Reads w w.heap.size 4 A m xs) (hm : m ≤ 9223372036854775807) (hx : ∀ i, i < m → ∃ k a b v, Op4s xs i k a b v ∧ wfI k ∧ wfI a) :
    Calls Try.prog 13 #[.int .i64 harts, .slice A m cap] w fun e w' => e = .returned (.bool true) ∧ Upd (fun _ => False) w w' := by
  have HX := Lib.hid (And.intro hrd hx)
  clear hrd hx
  by_cases hbad : harts < 1 ∨ 8 < harts
  · have HN1 := Lib.hid (sh_New_bad w harts hbad)
    have HN2 := Lib.hid (href_New_bad w harts hbad)
    clear hbad hh
    go_enter Try.func13, Try.ntmps13
    go_wp2_with fail
    ((with_reducible refine HN1.out.mono ?_); rintro e wz ⟨rfl, rfl⟩)
    go_wp2_with fail
    ((with_reducible refine HN2.out.mono ?_); rintro e wz ⟨rfl, rfl⟩)
    go_wp2_with fail
    refine (awake10 w).mono ?_; rintro e w8 ⟨rfl, hU8⟩
    have H8 := Lib.hid hU8
    clear hU8
    go_wp2
    go_ret
    exact ⟨rfl, H8.out⟩
  obtain ⟨n, rfl⟩ := Int.eq_ofNat_of_zero_le (show 0 ≤ harts by omega)
  have hn18 : 1 ≤ n ∧ n ≤ 8 := by omega
  have HN1 := Lib.hid (sh_New (fun _ => 0) 30 w n hn18)
  clear hbad hh
  go_enter Try.func13, Try.ntmps13
  go_wp2_with fail
  ((with_reducible refine HN1.out.mono ?_); rintro e w1 ⟨rfl, hS1, hSh1⟩)
  have HN2 := Lib.hid (href_New (ext (fun _ => 0) w 30) 31 32 w1 n hn18)
  have H1 := Lib.hid (And.intro hS1 hSh1)
  clear hS1 hSh1 HN1
  generalize w.heap.size + 1 = sp at *
  go_wp2_with fail
  ((with_reducible refine HN2.out.mono ?_); rintro e w2 ⟨rfl, hS2, hH2⟩)
  have H2 := Lib.hid (show SS w _ w2 sp (w1.heap.size + 1) (List.replicate n 0) (List.replicate n 0) (.slice none 0 0) [] (.slice none 0 0) [] (fun _ => []) (fun _ => []) from
    ⟨(H1.out.1.trans hS2).mono (fun _ h => h.elim), H1.out.2.step hS2 (fun h => h), hH2, Rw.nil _ _ _ _ _, Rw.nil _ _ _ _ _, rfl, (fun j p hj => by cases hj), (fun j p hj => by cases hj), by simp⟩)
  clear hS2 hH2 HN2 H1
  generalize w1.heap.size + 1 = hp at *
  generalize ext (ext (fun _ => 0) w 30) w1 31 = own2 at *
  obtain ⟨ie, hie, hiz, his, hib⟩ := info_parts info_tlbpS
  have HI := Lib.hid (And.intro hie (And.intro hiz (And.intro his hib)))
  obtain ⟨je, hie2, hiz2, his2, hib2⟩ := info_parts info_trefpS
  have HJ := Lib.hid (And.intro hie2 (And.intro hiz2 (And.intro his2 hib2)))
  clear hie hiz his hib hie2 hiz2 his2 hib2
  go_wp2
  go_loopw [9, 10, 11] (fun s1 s2 i wr => ∃ (k : Nat), k ≤ n ∧ i = .int .i64 (k : Int) ∧ Hid (∃ own' ps us, ps.length = k ∧ SS w own' wr sp hp (List.replicate n 0) (List.replicate n 0) s1 ps s2 us (fun _ => []) (fun _ => []))) (fun _ _ i _ => n - (intOf i).toNat)
  case atStart => exact ⟨0, by omega, rfl, own2, [], [], rfl, H2.out⟩
  case round =>
    rename World => wo
    obtain ⟨k, hk, rfl, HR⟩ := hrel
    clear H2
    by_cases hlt : k < n
    · obtain ⟨own3, ps, us, hps, hF⟩ := HR.out
      have hlt' : (k : Int) < (n : Int) := by omega
      have hN := tlb_New own3 (100 + 2 * k) (101 + 2 * k) wo 8 (by omega)
      rw [show ((8 : Nat) : Int) = 8 from rfl] at hN
      have HN := Lib.hid hN
      clear hN
      have H3 := Lib.hid (And.intro hps hF)
      clear hps hF HR
      go_wp2_with fail
      ((with_reducible refine HN.out.mono ?_); rintro e w4 ⟨rfl, hS4, hT4⟩)
      have H4 := Lib.hid (And.intro (H3.out.2.step (C := fun _ => False) hS4 (fun x h => h.elim)) hT4)
      clear hS4 hT4 HN
      generalize wo.heap.size = pk at *
      generalize ext own3 wo (100 + 2 * k) = own4 at *
      have hN := tref_New own4 (200 + 2 * k) (201 + 2 * k) w4 8 (by omega)
      rw [show ((8 : Nat) : Int) = 8 from rfl] at hN
      have HN := Lib.hid hN
      clear hN
      go_wp2_with fail
      ((with_reducible refine HN.out.mono ?_); rintro e w5 ⟨rfl, hS5, hT5⟩)
      have H5 := Lib.hid (And.intro (H4.out.1.step (C := fun _ => False) hS5 (fun x h => h.elim)) (And.intro (H4.out.2.step hS5 (fun h => h) (fun h => h)) hT5))
      clear hS5 hT5 HN H4
      generalize w4.heap.size = qk at *
      generalize ext own4 w4 (200 + 2 * k) = own5 at *
      go_wp2_with ((with_reducible show wpList _ _ _ ((⟨some 63, _, _, _, _, _⟩ : Oper) :: _) _ _); refine wpList_append_rw rfl (.tmp 60) (.tmp 62) _ rfl 106 ie _ 1 8 Try.underlying104 HI.out.1 HI.out.2.1 HI.out.2.2.1 HI.out.2.2.2 rfl (by omega) (own := own5) (d := 20) u9 _ _ rfl (H5.out.1.r1.step (step_allocS own5 w5 (.cells #[.pointer (some ⟨pk, 0, none⟩)] 106)) (fun h => h)) (w5.heap.size + 1) (some ⟨w5.heap.size, 0, none⟩) 1 1 [.pointer (some ⟨pk, 0, none⟩)] rfl ⟨rfl, fun _ => ⟨_, rfl, Nat.lt_succ_self _, cell_one_new _ _ _⟩⟩ (by simp [Value.oneCell']) (by unfold maxLen; have := H3.out.1; omega) (by have := H3.out.1; omega) ?_)
      intro v6 w6 hst6 hrow6
      have hs6 := ((step_allocS own5 w5 (.cells #[.pointer (some ⟨pk, 0, none⟩)] 106)).mono (C' := (· = 20)) (fun _ h => h.elim)).trans hst6
      have hr2 := H5.out.1.r2.step hs6 (by omega)
      have H6 := Lib.hid (And.intro hs6 (And.intro hrow6 hr2))
      have HLU := Lib.hid H5.out.1.lu
      clear hst6 hrow6 hs6 hr2
      generalize ext own5 (w5.alloc (.cells #[.pointer (some ⟨pk, 0, none⟩)] 106)) 20 = own6 at *
      go_wp2_with ((with_reducible show wpList _ _ _ ((⟨some 67, _, _, _, _, _⟩ : Oper) :: _) _ _); refine wpList_append_rw rfl (.tmp 64) (.tmp 66) _ rfl 109 je _ 1 8 Try.underlying105 HJ.out.1 HJ.out.2.1 HJ.out.2.2.1 HJ.out.2.2.2 rfl (by omega) (own := own6) (d := 21) u10 _ _ rfl (H6.out.2.2.step (step_allocS own6 w6 (.cells #[.pointer (some ⟨qk, 0, none⟩)] 109)) (fun h => h)) (w6.heap.size + 1) (some ⟨w6.heap.size, 0, none⟩) 1 1 [.pointer (some ⟨qk, 0, none⟩)] rfl ⟨rfl, fun _ => ⟨_, rfl, Nat.lt_succ_self _, cell_one_new _ _ _⟩⟩ (by simp [Value.oneCell']) (by unfold maxLen; have := H3.out.1; have := HLU.out; omega) (by have := H3.out.1; have := HLU.out; omega) ?_)
      intro v7 w7 hst7 hrow7
      have hs7 := ((step_allocS own6 w6 (.cells #[.pointer (some ⟨qk, 0, none⟩)] 109)).mono (C' := (· = 21)) (fun _ h => h.elim)).trans hst7
      have hpl := H3.out.1
      have hF7 := H5.out.1.pushT (by rw [hpl]; omega) H6.out.1 H6.out.2.1 (by rw [hpl]; exact H5.out.2.1) (by rw [hpl]; exact H5.out.2.2) hs7 hrow7
      have H7 := Lib.hid (And.intro (show (ps ++ [pk]).length = k + 1 by rw [List.length_append, hpl]; rfl) hF7)
      clear hst7 hrow7 hs7 hF7 hpl H6 H5 H3 HLU
      go_wp2
      exact ⟨⟨k + 1, by omega, by go_num, _, _, _, H7.out⟩, by simp [intOf]; omega⟩
    · obtain rfl : k = n := by omega
      obtain ⟨own3, ps, us, hps, hF⟩ := HR.out
      have HPS := Lib.hid (And.intro hps hF.lu)
      have H2 := Lib.hid (show SB w sp hp u9 ps u10 us wo from ⟨own3, _, _, hF, by rw [List.length_replicate, hps], fun b hb => by rw [List.mem_replicate] at hb; rw [hb.2]⟩)
      clear hlt hps hF HR HI HJ hk
      go_wp2
      go_loopw [16] (fun i wr => ∃ (i' : Nat), i' ≤ m ∧ i = .int .i64 (i' : Int) ∧ Hid (SB w sp hp u9 ps u10 us wr)) (fun i _ => m - (intOf i).toNat)
      case atStart => exact ⟨0, by omega, rfl, H2.out⟩
      case round =>
        rename World => wp
        obtain ⟨i, hi, rfl, HR⟩ := hrel
        clear H2
        by_cases hlt : i < m
        · have hlt' : (i : Int) < (m : Int) := by omega
          obtain ⟨own4, bs, L, hF, hbl, hev⟩ := HR.out
          obtain ⟨ab, ao, rfl, hab, hac⟩ := HX.out.1.beg (by omega) (by omega)
          obtain ⟨kd, ht, vm, pg, ⟨x0, x1, x2, x3⟩, ⟨hk0, hk1⟩, ⟨ht0, ht1⟩⟩ := HX.out.2 i hlt
          have c0 := (hF.st.upd.cell (p := ⟨ab, ao + i * 4, none⟩) hab (fun h => h rfl)).trans (hac _ _ x0)
          have c1 := (hF.st.upd.cell (p := ⟨ab, ao + (i * 4 + 1), none⟩) hab (fun h => h rfl)).trans (hac _ _ x1)
          have c2 := (hF.st.upd.cell (p := ⟨ab, ao + (i * 4 + 2), none⟩) hab (fun h => h rfl)).trans (hac _ _ x2)
          have c3 := (hF.st.upd.cell (p := ⟨ab, ao + (i * 4 + 3), none⟩) hab (fun h => h rfl)).trans (hac _ _ x3)
          simp only [← Nat.add_assoc] at c1 c2 c3
          have HPh := Lib.hid (fun w => place_calls ht (k : Int) w ht0 ht1 (by omega) (by omega))
          obtain ⟨r, hr⟩ : ∃ r : Nat, ht % (k : Int) = (r : Int) := ⟨(ht % (k : Int)).toNat, by have := Int.emod_nonneg ht (show (k : Int) ≠ 0 by omega); omega⟩
          have hrk : r < k := by have := Int.emod_lt_of_pos ht (show (0 : Int) < k by omega); omega
          rw [hr] at HPh
          have HPk := Lib.hid (fun w => place_calls kd 3 w hk0 hk1 (by omega) (by omega))
          obtain ⟨kk, hkk⟩ : ∃ kk : Int, kd % 3 = kk := ⟨_, rfl⟩
          have hkc : kk = 0 ∨ kk = 1 ∨ kk = 2 := by omega
          rw [hkk] at HPk
          have hstx : Step (fun _ => False) own4 wp (ext own4 wp 0) (wp.alloc (.cells #[.int .i64 kd, .int .i64 ht, .int .i64 vm, .int .u64 pg] 113)) := ⟨(Upd.refl _ _).alloc _, fun b hb => ext_old _ _ _ hb⟩
          have hxb := Blk.new wp 113 #[.int .i64 kd, .int .i64 ht, .int .i64 vm, .int .u64 pg]
          have hxo : ext own4 wp 0 wp.heap.size = 0 := ext_new _ _ _ (Nat.le_refl _)
          have H3 := Lib.hid (And.intro (hF.step (C := fun _ => False) hstx (fun x h => h.elim)) (And.intro hbl (And.intro hev (And.intro hxb hxo))))
          have d1 := hxb.cell 1
          have d0 := hxb.cell 0
          simp only [List.getElem?_toArray, List.getElem?_cons_succ, List.getElem?_cons_zero] at d0 d1
          clear hF hac x0 x1 x2 x3 hr hkk hstx hxb hxo hbl hev hk0 hk1 HR
          go_wp2_with fail
          ((with_reducible refine (HPh.out _).mono ?_); rintro e wz ⟨rfl, rfl⟩)
          clear HPh
          go_wp2_with fail
          ((with_reducible refine (HPk.out _).mono ?_); rintro e wz ⟨rfl, rfl⟩)
          clear HPk c0 c1 c2 c3
          generalize (wp.alloc (.cells #[.int .i64 kd, .int .i64 ht, .int .i64 vm, .int .u64 pg] 113)) = wq at *
          generalize ext own4 wp 0 = own5 at *
          generalize wp.heap.size = xb at *
          go_upto_block 4 with fail
          go_cut [] (fun wx => Hid (SB w sp hp u9 ps u10 us wx))
          case first =>
            have d2 := H3.out.2.2.2.1.cell 2
            have d3 := H3.out.2.2.2.1.cell 3
            simp only [List.getElem?_toArray, List.getElem?_cons_succ, List.getElem?_cons_zero] at d2 d3
            have hlx := H3.out.2.2.2.1.lt
            rcases hkc with rfl | rfl | rfl
            · by_cases hvm : vm < 1 ∨ 15 < vm
              · have HP1 := Lib.hid (sh_Post_bad (sp := sp) wq vm hvm)
                have HP2 := Lib.hid (href_Post_bad (hp := hp) wq vm hvm)
                clear hvm
                go_wp2_with fail
                ((with_reducible refine HP1.out.mono ?_); rintro e wz ⟨rfl, rfl⟩)
                clear HP1
                go_wp2_with fail
                ((with_reducible refine HP2.out.mono ?_); rintro e wz ⟨rfl, rfl⟩)
                clear HP2
                go_wp2
                go_meet
                exact ⟨own5, bs, L, H3.out.1, H3.out.2.1, H3.out.2.2.1⟩
              · obtain ⟨v, rfl⟩ := Int.eq_ofNat_of_zero_le (show 0 ≤ vm by omega)
                have hv : 1 ≤ v ∧ v ≤ 15 := by omega
                have HP1 := Lib.hid (sh_Post H3.out.1.sh v hv)
                clear hvm
                go_wp2_with fail
                ((with_reducible refine HP1.out.mono ?_); rintro e w6 ⟨rfl, hS6, hSh6⟩)
                have e2 := (hS6.upd.cell (p := ⟨xb, 2, none⟩) hlx (by show ¬ own5 xb = 30; rw [H3.out.2.2.2.2]; omega)).trans d2
                have hF6 := H3.out.1.post hS6 (fun x hx => hx) hSh6
                have HP2 := Lib.hid (href_Post hF6.hh (by omega) v hv)
                have H6 := Lib.hid hF6
                clear hS6 hSh6 hF6 HP1 d0 d1 d2 d3
                go_wp2_with fail
                ((with_reducible refine HP2.out.mono ?_); rintro e w7 ⟨rfl, own7, hS7, hH7⟩)
                have H7 := Lib.hid (H6.out.postH hS7 (fun x hx => hx) hH7)
                clear hS7 hH7 HP2 H6 e2
                go_wp2
                go_meet
                exact ⟨own7, _, L, H7.out, by unfold postL; rw [List.length_map]; exact H3.out.2.1, H3.out.2.2.1.post v hv.1⟩
            · obtain ⟨pr, hpr⟩ : ∃ pr, ps[r]? = some pr := ⟨_, List.getElem?_eq_getElem (by rw [HPS.out.1]; exact hrk)⟩
              obtain ⟨ur, hur⟩ : ∃ ur, us[r]? = some ur := ⟨_, List.getElem?_eq_getElem (by rw [HPS.out.2, HPS.out.1]; exact hrk)⟩
              obtain ⟨A1, cap1, hv1, _, hf1⟩ := H3.out.1.r1.form
              obtain ⟨g1, o1, rfl, ho1, hg1, _, hc1⟩ := hf1 (by rw [HPS.out.1]; omega)
              have r1 := hc1 r _ (ptrS_at ps r pr hpr)
              rw [HPS.out.1] at hv1
              obtain ⟨A2, cap2, hv2, _, hf2⟩ := H3.out.1.r2.form
              obtain ⟨g2, o2, rfl, ho2, hg2, _, hc2⟩ := hf2 (by rw [HPS.out.2, HPS.out.1]; omega)
              have r2 := hc2 r _ (ptrS_at us r ur hur)
              rw [HPS.out.2, HPS.out.1] at hv2
              subst hv1
              subst hv2
              have hstd : Step (fun _ => False) own5 wq own5 wq.drew := (Step.refl _ _ _).drew
              have hFd := H3.out.1.step (C := fun _ => False) hstd (fun x h => h.elim)
              obtain ⟨b, hb⟩ : ∃ b, bs[r]? = some b := ⟨_, List.getElem?_eq_getElem (by rw [H3.out.2.1, HPS.out.1]; exact hrk)⟩
              have HSv := Lib.hid (sh_Serve hFd.sh (hFd.tl r pr hpr) (by omega) r b hb)
              have H5 := Lib.hid (And.intro hFd (And.intro (And.intro hpr hur) hb))
              clear hf1 hf2 hc1 hc2 hstd hFd hpr hur hb d0 d1 d2 d3 hlx
              go_wp2_with fail
              refine wpE_region (S := fun (W' : World) => W'.cell? ⟨g1, o1 + r, none⟩ = some (.pointer (some ⟨pr, 0, none⟩)) ∧ W'.cell? ⟨g2, o2 + r, none⟩ = some (.pointer (some ⟨ur, 0, none⟩))) (s := 14) (by kernel_rfl) ?_
              have hS : (fun (W' : World) => W'.cell? ⟨g1, o1 + r, none⟩ = some (.pointer (some ⟨pr, 0, none⟩)) ∧ W'.cell? ⟨g2, o2 + r, none⟩ = some (.pointer (some ⟨ur, 0, none⟩))) _ := ⟨r1, r2⟩
              refine wpE_take (i := 0) (oi := { dst := some 97, op := Go.Op.move (Go.Operand.tmp 5), type := 98, pos := "law.go:270", after := #[], guard := none }) (v := ?_) rfl (by kernel_rfl) (fun _ _ _ h => h) (Or.inl ⟨by rfl, fun W hW => ?_⟩) hS ?_
              rotate_left
              · obtain ⟨hw1, hw2⟩ := hW; go_simp; (try go_bits); (try rw [if_pos (by omega)]); (try with_reducible rfl)
              (try simp only [Act.put, List.setIfInBounds_toArray, List.set_cons_succ, List.set_cons_zero])
              refine wpE_take (i := 1) (oi := { dst := some 98, op := Go.Op.move (Go.Operand.tmp 18), type := 3, pos := "law.go:270", after := #[], guard := none }) (v := ?_) rfl (by kernel_rfl) (fun _ _ _ h => h) (Or.inl ⟨by rfl, fun W hW => ?_⟩) hS ?_
              rotate_left
              · obtain ⟨hw1, hw2⟩ := hW; go_simp; (try go_bits); (try rw [if_pos (by omega)]); (try with_reducible rfl)
              (try simp only [Act.put, List.setIfInBounds_toArray, List.set_cons_succ, List.set_cons_zero])
              refine wpE_take (i := 2) (oi := { dst := some 99, op := Go.Op.move (Go.Operand.tmp 9), type := 104, pos := "law.go:270", after := #[], guard := none }) (v := ?_) rfl (by kernel_rfl) (fun _ _ _ h => h) (Or.inl ⟨by rfl, fun W hW => ?_⟩) hS ?_
              rotate_left
              · obtain ⟨hw1, hw2⟩ := hW; go_simp; (try go_bits); (try rw [if_pos (by omega)]); (try with_reducible rfl)
              (try simp only [Act.put, List.setIfInBounds_toArray, List.set_cons_succ, List.set_cons_zero])
              refine wpE_take (i := 3) (oi := { dst := some 100, op := Go.Op.move (Go.Operand.tmp 18), type := 3, pos := "law.go:270", after := #[], guard := none }) (v := ?_) rfl (by kernel_rfl) (fun _ _ _ h => h) (Or.inl ⟨by rfl, fun W hW => ?_⟩) hS ?_
              rotate_left
              · obtain ⟨hw1, hw2⟩ := hW; go_simp; (try go_bits); (try rw [if_pos (by omega)]); (try with_reducible rfl)
              (try simp only [Act.put, List.setIfInBounds_toArray, List.set_cons_succ, List.set_cons_zero])
              refine wpE_take (i := 4) (oi := { dst := some 101, op := Go.Op.indexAddr 104 (Go.Operand.tmp 99) (Go.Operand.tmp 100), type := 0, pos := "law.go:270", after := #[{ on := 2, ground := Go.Ground.data }, { on := 3, ground := Go.Ground.data }], guard := none }) (v := ?_) rfl (by kernel_rfl) (fun _ _ _ h => h) (Or.inl ⟨by rfl, fun W hW => ?_⟩) hS ?_
              rotate_left
              · obtain ⟨hw1, hw2⟩ := hW; go_simp; (try go_bits); (try rw [if_pos (by omega)]); (try with_reducible rfl)
              (try simp only [Act.put, List.setIfInBounds_toArray, List.set_cons_succ, List.set_cons_zero])
              refine wpE_take (i := 5) (oi := { dst := some 102, op := Go.Op.load 106 (Go.Operand.tmp 101), type := 106, pos := "law.go:270", after := #[{ on := 4, ground := Go.Ground.data }], guard := none }) (v := ?_) rfl (by kernel_rfl) (fun _ _ _ h => h) (Or.inl ⟨by rfl, fun W hW => ?_⟩) hS ?_
              rotate_left
              · obtain ⟨hw1, hw2⟩ := hW; go_simp; (try go_bits); (try rw [if_pos (by omega)]); (try with_reducible rfl)
              (try simp only [Act.put, List.setIfInBounds_toArray, List.set_cons_succ, List.set_cons_zero])
              refine wpE_take (i := 7) (oi := { dst := some 104, op := Go.Op.move (Go.Operand.tmp 7), type := 101, pos := "law.go:270", after := #[], guard := none }) (v := ?_) rfl (by kernel_rfl) (fun _ _ _ h => h) (Or.inl ⟨by rfl, fun W hW => ?_⟩) hS ?_
              rotate_left
              · obtain ⟨hw1, hw2⟩ := hW; go_simp; (try go_bits); (try rw [if_pos (by omega)]); (try with_reducible rfl)
              (try simp only [Act.put, List.setIfInBounds_toArray, List.set_cons_succ, List.set_cons_zero])
              refine wpE_take (i := 8) (oi := { dst := some 105, op := Go.Op.move (Go.Operand.tmp 18), type := 3, pos := "law.go:270", after := #[], guard := none }) (v := ?_) rfl (by kernel_rfl) (fun _ _ _ h => h) (Or.inl ⟨by rfl, fun W hW => ?_⟩) hS ?_
              rotate_left
              · obtain ⟨hw1, hw2⟩ := hW; go_simp; (try go_bits); (try rw [if_pos (by omega)]); (try with_reducible rfl)
              (try simp only [Act.put, List.setIfInBounds_toArray, List.set_cons_succ, List.set_cons_zero])
              refine wpE_take (i := 9) (oi := { dst := some 106, op := Go.Op.move (Go.Operand.tmp 10), type := 105, pos := "law.go:270", after := #[], guard := none }) (v := ?_) rfl (by kernel_rfl) (fun _ _ _ h => h) (Or.inl ⟨by rfl, fun W hW => ?_⟩) hS ?_
              rotate_left
              · obtain ⟨hw1, hw2⟩ := hW; go_simp; (try go_bits); (try rw [if_pos (by omega)]); (try with_reducible rfl)
              (try simp only [Act.put, List.setIfInBounds_toArray, List.set_cons_succ, List.set_cons_zero])
              refine wpE_take (i := 10) (oi := { dst := some 107, op := Go.Op.move (Go.Operand.tmp 18), type := 3, pos := "law.go:270", after := #[], guard := none }) (v := ?_) rfl (by kernel_rfl) (fun _ _ _ h => h) (Or.inl ⟨by rfl, fun W hW => ?_⟩) hS ?_
              rotate_left
              · obtain ⟨hw1, hw2⟩ := hW; go_simp; (try go_bits); (try rw [if_pos (by omega)]); (try with_reducible rfl)
              (try simp only [Act.put, List.setIfInBounds_toArray, List.set_cons_succ, List.set_cons_zero])
              refine wpE_take (i := 11) (oi := { dst := some 108, op := Go.Op.indexAddr 105 (Go.Operand.tmp 106) (Go.Operand.tmp 107), type := 0, pos := "law.go:270", after := #[{ on := 9, ground := Go.Ground.data }, { on := 10, ground := Go.Ground.data }], guard := none }) (v := ?_) rfl (by kernel_rfl) (fun _ _ _ h => h) (Or.inl ⟨by rfl, fun W hW => ?_⟩) hS ?_
              rotate_left
              · obtain ⟨hw1, hw2⟩ := hW; go_simp; (try go_bits); (try rw [if_pos (by omega)]); (try with_reducible rfl)
              (try simp only [Act.put, List.setIfInBounds_toArray, List.set_cons_succ, List.set_cons_zero])
              refine wpE_take (i := 12) (oi := { dst := some 109, op := Go.Op.load 109 (Go.Operand.tmp 108), type := 109, pos := "law.go:270", after := #[{ on := 11, ground := Go.Ground.data }], guard := none }) (v := ?_) rfl (by kernel_rfl) (fun _ _ _ h => h) (Or.inl ⟨by rfl, fun W hW => ?_⟩) hS ?_
              rotate_left
              · obtain ⟨hw1, hw2⟩ := hW; go_simp; (try go_bits); (try rw [if_pos (by omega)]); (try with_reducible rfl)
              (try simp only [Act.put, List.setIfInBounds_toArray, List.set_cons_succ, List.set_cons_zero])
              refine wpE_only (i := 6) (oi := { dst := some 103, op := Go.Op.call { callee := Go.Callee.value (Go.Operand.func 64), args := #[Go.Operand.tmp 97, Go.Operand.tmp 98, Go.Operand.tmp 102], argTypes := #[98, 3, 106] }, type := 3, pos := "law.go:270", after := #[{ on := 0, ground := Go.Ground.data }, { on := 1, ground := Go.Ground.data }, { on := 5, ground := Go.Ground.data }], guard := none }) rfl (by kernel_rfl) (by rfl) (fun K hK => ?_)
              go_simp
              refine HSv.out.mono ?_; rintro e w6 ⟨rfl, own6, hS6, hSh6, hT6⟩
              have hF6 := H5.out.1.oneS r pr H5.out.2.1.1 hS6 (fun x hx => by omega) hSh6 hT6
              have hS : w6.cell? ⟨g1, o1 + r, none⟩ = some (.pointer (some ⟨pr, 0, none⟩)) ∧ w6.cell? ⟨g2, o2 + r, none⟩ = some (.pointer (some ⟨ur, 0, none⟩)) := ⟨(hS6.upd.cell (p := ⟨g1, o1 + r, none⟩) hg1 (by show ¬ (own5 g1 = 30 ∨ own5 g1 = 100 + 2 * r); rw [ho1]; omega)).trans r1, (hS6.upd.cell (p := ⟨g2, o2 + r, none⟩) hg2 (by show ¬ (own5 g2 = 30 ∨ own5 g2 = 100 + 2 * r); rw [ho2]; omega)).trans r2⟩
              have HSv2 := Lib.hid (href_Serve hF6.hh (hF6.ul r ur H5.out.2.1.2) (by omega) (by omega) r b H5.out.2.2)
              have H6 := Lib.hid hF6
              have HL6 := Lib.hid (And.intro (Nat.lt_of_lt_of_le hg1 hS6.upd.size) (Nat.lt_of_lt_of_le hg2 hS6.upd.size))
              have HO6 := Lib.hid (And.intro ((hS6.old g1 hg1).trans ho1) ((hS6.old g2 hg2).trans ho2))
              clear hS6 hSh6 hT6 hF6 HSv
              refine hK _ _ hS ?_; clear hK K
              (try simp only [Act.put, List.setIfInBounds_toArray, List.set_cons_succ, List.set_cons_zero])
              refine wpE_only (i := 13) (oi := { dst := some 110, op := Go.Op.call { callee := Go.Callee.value (Go.Operand.func 65), args := #[Go.Operand.tmp 104, Go.Operand.tmp 105, Go.Operand.tmp 109], argTypes := #[101, 3, 109] }, type := 3, pos := "law.go:270", after := #[{ on := 7, ground := Go.Ground.data }, { on := 8, ground := Go.Ground.data }, { on := 12, ground := Go.Ground.data }, { on := 6, ground := Go.Ground.chain }], guard := none }) rfl (by kernel_rfl) (by rfl) (fun K hK => ?_)
              go_simp
              refine HSv2.out.mono ?_; rintro e w7 ⟨rfl, own7, hS7, hH7, hT7⟩
              have hF7 := H6.out.oneH r ur H5.out.2.1.2 hS7 (fun x hx => by omega) hH7 hT7
              have hS : w7.cell? ⟨g1, o1 + r, none⟩ = some (.pointer (some ⟨pr, 0, none⟩)) ∧ w7.cell? ⟨g2, o2 + r, none⟩ = some (.pointer (some ⟨ur, 0, none⟩)) := ⟨(hS7.upd.cell (p := ⟨g1, o1 + r, none⟩) HL6.out.1 (by show ¬ (own6 g1 = 31 ∨ own6 g1 = 200 + 2 * r); rw [HO6.out.1]; omega)).trans hS.1, (hS7.upd.cell (p := ⟨g2, o2 + r, none⟩) HL6.out.2 (by show ¬ (own6 g2 = 31 ∨ own6 g2 = 200 + 2 * r); rw [HO6.out.2]; omega)).trans hS.2⟩
              have H7 := Lib.hid hF7
              clear hS7 hH7 hT7 hF7 HSv2 H6 HL6 HO6
              refine hK _ _ hS ?_; clear hK K
              (try simp only [Act.put, List.setIfInBounds_toArray, List.set_cons_succ, List.set_cons_zero])
              refine wpE_last (oi := { dst := some 111, op := Go.Op.binOp Go.BinOp.neq 3 (Go.Operand.tmp 103) (Go.Operand.tmp 110) 3, type := 4, pos := "law.go:270", after := #[{ on := 6, ground := Go.Ground.data }, { on := 13, ground := Go.Ground.data }], guard := none }) rfl (by kernel_rfl) (by kernel_rfl) (by rfl) (fun K hK => ?_)
              go_simp; (try go_bits); refine hK _ _ ?_; clear hK K
              clear hS r1 r2
              go_wp2
              go_meet
              exact ⟨own7, _, _, H7.out, by rw [servB_len]; exact H3.out.2.1, H3.out.2.2.1.serve r b⟩
            · obtain ⟨pr, hpr⟩ : ∃ pr, ps[r]? = some pr := ⟨_, List.getElem?_eq_getElem (by rw [HPS.out.1]; exact hrk)⟩
              obtain ⟨ur, hur⟩ : ∃ ur, us[r]? = some ur := ⟨_, List.getElem?_eq_getElem (by rw [HPS.out.2, HPS.out.1]; exact hrk)⟩
              obtain ⟨A1, cap1, hv1, _, hf1⟩ := H3.out.1.r1.form
              obtain ⟨g1, o1, rfl, ho1, hg1, _, hc1⟩ := hf1 (by rw [HPS.out.1]; omega)
              have r1 := hc1 r _ (ptrS_at ps r pr hpr)
              rw [HPS.out.1] at hv1
              obtain ⟨A2, cap2, hv2, _, hf2⟩ := H3.out.1.r2.form
              obtain ⟨g2, o2, rfl, ho2, hg2, _, hc2⟩ := hf2 (by rw [HPS.out.2, HPS.out.1]; omega)
              have r2 := hc2 r _ (ptrS_at us r ur hur)
              rw [HPS.out.2, HPS.out.1] at hv2
              subst hv1
              subst hv2
              have hstd : Step (fun _ => False) own5 wq own5 wq.drew := (Step.refl _ _ _).drew
              have hFd := H3.out.1.step (C := fun _ => False) hstd (fun x h => h.elim)
              have HPu := Lib.hid (tlb_Put (hFd.tl r pr hpr) (by omega) ⟨vm, pg, 1, 2⟩)
              have hxd := hstd.blk H3.out.2.2.2.1 H3.out.2.2.2.2 (fun h => h)
              have H5 := Lib.hid (And.intro hFd (And.intro (And.intro hpr hur) hxd))
              clear hf1 hf2 hc1 hc2 hstd hFd hpr hur d0 d1 hxd
              go_wp2_with fail
              refine wpE_region (S := fun (W' : World) => W'.cell? ⟨g1, o1 + r, none⟩ = some (.pointer (some ⟨pr, 0, none⟩)) ∧ W'.cell? ⟨xb, 2, none⟩ = some (.int .i64 vm) ∧ W'.cell? ⟨xb, 3, none⟩ = some (.int .u64 pg)) (s := 9) (by kernel_rfl) ?_
              have hS : (fun (W' : World) => W'.cell? ⟨g1, o1 + r, none⟩ = some (.pointer (some ⟨pr, 0, none⟩)) ∧ W'.cell? ⟨xb, 2, none⟩ = some (.int .i64 vm) ∧ W'.cell? ⟨xb, 3, none⟩ = some (.int .u64 pg)) _ := ⟨r1, d2, d3⟩
              refine wpE_take (i := 0) (oi := { dst := some 114, op := Go.Op.move (Go.Operand.tmp 9), type := 104, pos := "law.go:274", after := #[], guard := none }) (v := ?_) rfl (by kernel_rfl) (fun _ _ _ h => h) (Or.inl ⟨by rfl, fun W hW => ?_⟩) hS ?_
              rotate_left
              · obtain ⟨hw1, hw2, hw3⟩ := hW; go_simp; (try go_bits); (try rw [if_pos (by omega)]); (try with_reducible rfl)
              (try simp only [Act.put, List.setIfInBounds_toArray, List.set_cons_succ, List.set_cons_zero])
              refine wpE_take (i := 1) (oi := { dst := some 115, op := Go.Op.move (Go.Operand.tmp 18), type := 3, pos := "law.go:274", after := #[], guard := none }) (v := ?_) rfl (by kernel_rfl) (fun _ _ _ h => h) (Or.inl ⟨by rfl, fun W hW => ?_⟩) hS ?_
              rotate_left
              · obtain ⟨hw1, hw2, hw3⟩ := hW; go_simp; (try go_bits); (try rw [if_pos (by omega)]); (try with_reducible rfl)
              (try simp only [Act.put, List.setIfInBounds_toArray, List.set_cons_succ, List.set_cons_zero])
              refine wpE_take (i := 2) (oi := { dst := some 116, op := Go.Op.indexAddr 104 (Go.Operand.tmp 114) (Go.Operand.tmp 115), type := 0, pos := "law.go:274", after := #[{ on := 0, ground := Go.Ground.data }, { on := 1, ground := Go.Ground.data }], guard := none }) (v := ?_) rfl (by kernel_rfl) (fun _ _ _ h => h) (Or.inl ⟨by rfl, fun W hW => ?_⟩) hS ?_
              rotate_left
              · obtain ⟨hw1, hw2, hw3⟩ := hW; go_simp; (try go_bits); (try rw [if_pos (by omega)]); (try with_reducible rfl)
              (try simp only [Act.put, List.setIfInBounds_toArray, List.set_cons_succ, List.set_cons_zero])
              refine wpE_take (i := 3) (oi := { dst := some 117, op := Go.Op.load 106 (Go.Operand.tmp 116), type := 106, pos := "law.go:274", after := #[{ on := 2, ground := Go.Ground.data }], guard := none }) (v := ?_) rfl (by kernel_rfl) (fun _ _ _ h => h) (Or.inl ⟨by rfl, fun W hW => ?_⟩) hS ?_
              rotate_left
              · obtain ⟨hw1, hw2, hw3⟩ := hW; go_simp; (try go_bits); (try rw [if_pos (by omega)]); (try with_reducible rfl)
              (try simp only [Act.put, List.setIfInBounds_toArray, List.set_cons_succ, List.set_cons_zero])
              refine wpE_take (i := 4) (oi := { dst := some 118, op := Go.Op.fieldAddr 113 (Go.Operand.tmp 17) 2, type := 0, pos := "law.go:274", after := #[], guard := none }) (v := ?_) rfl (by kernel_rfl) (fun _ _ _ h => h) (Or.inl ⟨by rfl, fun W hW => ?_⟩) hS ?_
              rotate_left
              · obtain ⟨hw1, hw2, hw3⟩ := hW; go_simp; (try go_bits); (try rw [if_pos (by omega)]); (try with_reducible rfl)
              (try simp only [Act.put, List.setIfInBounds_toArray, List.set_cons_succ, List.set_cons_zero])
              refine wpE_take (i := 5) (oi := { dst := some 119, op := Go.Op.load 3 (Go.Operand.tmp 118), type := 3, pos := "law.go:274", after := #[{ on := 4, ground := Go.Ground.data }], guard := none }) (v := ?_) rfl (by kernel_rfl) (fun _ _ _ h => h) (Or.inl ⟨by rfl, fun W hW => ?_⟩) hS ?_
              rotate_left
              · obtain ⟨hw1, hw2, hw3⟩ := hW; go_simp; (try go_bits); (try rw [if_pos (by omega)]); (try with_reducible rfl)
              (try simp only [Act.put, List.setIfInBounds_toArray, List.set_cons_succ, List.set_cons_zero])
              refine wpE_take (i := 6) (oi := { dst := some 120, op := Go.Op.fieldAddr 113 (Go.Operand.tmp 17) 3, type := 0, pos := "law.go:274", after := #[], guard := none }) (v := ?_) rfl (by kernel_rfl) (fun _ _ _ h => h) (Or.inl ⟨by rfl, fun W hW => ?_⟩) hS ?_
              rotate_left
              · obtain ⟨hw1, hw2, hw3⟩ := hW; go_simp; (try go_bits); (try rw [if_pos (by omega)]); (try with_reducible rfl)
              (try simp only [Act.put, List.setIfInBounds_toArray, List.set_cons_succ, List.set_cons_zero])
              refine wpE_take (i := 7) (oi := { dst := some 121, op := Go.Op.load 30 (Go.Operand.tmp 120), type := 30, pos := "law.go:274", after := #[{ on := 6, ground := Go.Ground.data }], guard := none }) (v := ?_) rfl (by kernel_rfl) (fun _ _ _ h => h) (Or.inl ⟨by rfl, fun W hW => ?_⟩) hS ?_
              rotate_left
              · obtain ⟨hw1, hw2, hw3⟩ := hW; go_simp; (try go_bits); (try rw [if_pos (by omega)]); (try with_reducible rfl)
              (try simp only [Act.put, List.setIfInBounds_toArray, List.set_cons_succ, List.set_cons_zero])
              refine wpE_take (i := 8) (oi := { dst := some 122, op := Go.Op.build 119 #[(0, Go.Operand.tmp 119), (1, Go.Operand.tmp 121), (2, Go.Operand.const (Go.Value.int Go.IntKind.u64 1)), (3, Go.Operand.const (Go.Value.int Go.IntKind.i64 2))], type := 119, pos := "law.go:274", after := #[{ on := 5, ground := Go.Ground.data }, { on := 7, ground := Go.Ground.data }], guard := none }) (v := ?_) rfl (by kernel_rfl) (fun _ _ _ h => h) (Or.inl ⟨by rfl, fun W hW => ?_⟩) hS ?_
              rotate_left
              · obtain ⟨hw1, hw2, hw3⟩ := hW; go_simp; (try go_bits); (try rw [if_pos (by omega)]); (try with_reducible rfl)
              (try simp only [Act.put, List.setIfInBounds_toArray, List.set_cons_succ, List.set_cons_zero])
              refine wpE_last (oi := { dst := some 123, op := Go.Op.call { callee := Go.Callee.value (Go.Operand.func 66), args := #[Go.Operand.tmp 117, Go.Operand.tmp 122], argTypes := #[106, 119] }, type := 0, pos := "law.go:274", after := #[{ on := 3, ground := Go.Ground.data }, { on := 8, ground := Go.Ground.data }], guard := none }) rfl (by kernel_rfl) (by kernel_rfl) (by rfl) (fun K hK => ?_)
              go_simp
              refine HPu.out.mono ?_; rintro e w6 ⟨rfl, own6, hS6, hT6⟩
              have hF6 := H5.out.1.oneS r pr H5.out.2.1.1 hS6 (fun x hx => Or.inr hx) (H5.out.1.sh.step hS6 (by omega)) hT6
              have q2 := (hS6.upd.cell (p := ⟨g2, o2 + r, none⟩) hg2 (by show ¬ (own5 g2 = 100 + 2 * r ∨ own5 g2 = 101 + 2 * r); rw [ho2]; omega)).trans r2
              have qx := hS6.blk H5.out.2.2.1 H5.out.2.2.2 (by omega)
              have f2 := qx.1.cell 2
              have f3 := qx.1.cell 3
              simp only [List.getElem?_toArray, List.getElem?_cons_succ, List.getElem?_cons_zero] at f2 f3
              have hstd : Step (fun _ => False) own6 w6 own6 w6.drew := (Step.refl _ _ _).drew
              have hFd := hF6.step (C := fun _ => False) hstd (fun x h => h.elim)
              have HPu2 := Lib.hid (tref_Put (hFd.ul r ur H5.out.2.1.2) (by omega) ⟨vm, pg, 1, 2⟩)
              have H6 := Lib.hid hFd
              clear hS6 hT6 hF6 HPu qx hstd hFd
              refine hK _ _ ?_; clear hK K
              clear hS r1 r2 d2 d3
              go_wp2_with fail
              refine wpE_region (S := fun (W' : World) => W'.cell? ⟨g2, o2 + r, none⟩ = some (.pointer (some ⟨ur, 0, none⟩)) ∧ W'.cell? ⟨xb, 2, none⟩ = some (.int .i64 vm) ∧ W'.cell? ⟨xb, 3, none⟩ = some (.int .u64 pg)) (s := 9) (by kernel_rfl) ?_
              have hS : (fun (W' : World) => W'.cell? ⟨g2, o2 + r, none⟩ = some (.pointer (some ⟨ur, 0, none⟩)) ∧ W'.cell? ⟨xb, 2, none⟩ = some (.int .i64 vm) ∧ W'.cell? ⟨xb, 3, none⟩ = some (.int .u64 pg)) _ := ⟨q2, f2, f3⟩
              refine wpE_take (i := 0) (oi := { dst := some 124, op := Go.Op.move (Go.Operand.tmp 10), type := 105, pos := "law.go:275", after := #[], guard := none }) (v := ?_) rfl (by kernel_rfl) (fun _ _ _ h => h) (Or.inl ⟨by rfl, fun W hW => ?_⟩) hS ?_
              rotate_left
              · obtain ⟨hw1, hw2, hw3⟩ := hW; go_simp; (try go_bits); (try rw [if_pos (by omega)]); (try with_reducible rfl)
              (try simp only [Act.put, List.setIfInBounds_toArray, List.set_cons_succ, List.set_cons_zero])
              refine wpE_take (i := 1) (oi := { dst := some 125, op := Go.Op.move (Go.Operand.tmp 18), type := 3, pos := "law.go:275", after := #[], guard := none }) (v := ?_) rfl (by kernel_rfl) (fun _ _ _ h => h) (Or.inl ⟨by rfl, fun W hW => ?_⟩) hS ?_
              rotate_left
              · obtain ⟨hw1, hw2, hw3⟩ := hW; go_simp; (try go_bits); (try rw [if_pos (by omega)]); (try with_reducible rfl)
              (try simp only [Act.put, List.setIfInBounds_toArray, List.set_cons_succ, List.set_cons_zero])
              refine wpE_take (i := 2) (oi := { dst := some 126, op := Go.Op.indexAddr 105 (Go.Operand.tmp 124) (Go.Operand.tmp 125), type := 0, pos := "law.go:275", after := #[{ on := 0, ground := Go.Ground.data }, { on := 1, ground := Go.Ground.data }], guard := none }) (v := ?_) rfl (by kernel_rfl) (fun _ _ _ h => h) (Or.inl ⟨by rfl, fun W hW => ?_⟩) hS ?_
              rotate_left
              · obtain ⟨hw1, hw2, hw3⟩ := hW; go_simp; (try go_bits); (try rw [if_pos (by omega)]); (try with_reducible rfl)
              (try simp only [Act.put, List.setIfInBounds_toArray, List.set_cons_succ, List.set_cons_zero])
              refine wpE_take (i := 3) (oi := { dst := some 127, op := Go.Op.load 109 (Go.Operand.tmp 126), type := 109, pos := "law.go:275", after := #[{ on := 2, ground := Go.Ground.data }], guard := none }) (v := ?_) rfl (by kernel_rfl) (fun _ _ _ h => h) (Or.inl ⟨by rfl, fun W hW => ?_⟩) hS ?_
              rotate_left
              · obtain ⟨hw1, hw2, hw3⟩ := hW; go_simp; (try go_bits); (try rw [if_pos (by omega)]); (try with_reducible rfl)
              (try simp only [Act.put, List.setIfInBounds_toArray, List.set_cons_succ, List.set_cons_zero])
              refine wpE_take (i := 4) (oi := { dst := some 128, op := Go.Op.fieldAddr 113 (Go.Operand.tmp 17) 2, type := 0, pos := "law.go:275", after := #[], guard := none }) (v := ?_) rfl (by kernel_rfl) (fun _ _ _ h => h) (Or.inl ⟨by rfl, fun W hW => ?_⟩) hS ?_
              rotate_left
              · obtain ⟨hw1, hw2, hw3⟩ := hW; go_simp; (try go_bits); (try rw [if_pos (by omega)]); (try with_reducible rfl)
              (try simp only [Act.put, List.setIfInBounds_toArray, List.set_cons_succ, List.set_cons_zero])
              refine wpE_take (i := 5) (oi := { dst := some 129, op := Go.Op.load 3 (Go.Operand.tmp 128), type := 3, pos := "law.go:275", after := #[{ on := 4, ground := Go.Ground.data }], guard := none }) (v := ?_) rfl (by kernel_rfl) (fun _ _ _ h => h) (Or.inl ⟨by rfl, fun W hW => ?_⟩) hS ?_
              rotate_left
              · obtain ⟨hw1, hw2, hw3⟩ := hW; go_simp; (try go_bits); (try rw [if_pos (by omega)]); (try with_reducible rfl)
              (try simp only [Act.put, List.setIfInBounds_toArray, List.set_cons_succ, List.set_cons_zero])
              refine wpE_take (i := 6) (oi := { dst := some 130, op := Go.Op.fieldAddr 113 (Go.Operand.tmp 17) 3, type := 0, pos := "law.go:275", after := #[], guard := none }) (v := ?_) rfl (by kernel_rfl) (fun _ _ _ h => h) (Or.inl ⟨by rfl, fun W hW => ?_⟩) hS ?_
              rotate_left
              · obtain ⟨hw1, hw2, hw3⟩ := hW; go_simp; (try go_bits); (try rw [if_pos (by omega)]); (try with_reducible rfl)
              (try simp only [Act.put, List.setIfInBounds_toArray, List.set_cons_succ, List.set_cons_zero])
              refine wpE_take (i := 7) (oi := { dst := some 131, op := Go.Op.load 30 (Go.Operand.tmp 130), type := 30, pos := "law.go:275", after := #[{ on := 6, ground := Go.Ground.data }], guard := none }) (v := ?_) rfl (by kernel_rfl) (fun _ _ _ h => h) (Or.inl ⟨by rfl, fun W hW => ?_⟩) hS ?_
              rotate_left
              · obtain ⟨hw1, hw2, hw3⟩ := hW; go_simp; (try go_bits); (try rw [if_pos (by omega)]); (try with_reducible rfl)
              (try simp only [Act.put, List.setIfInBounds_toArray, List.set_cons_succ, List.set_cons_zero])
              refine wpE_take (i := 8) (oi := { dst := some 132, op := Go.Op.build 119 #[(0, Go.Operand.tmp 129), (1, Go.Operand.tmp 131), (2, Go.Operand.const (Go.Value.int Go.IntKind.u64 1)), (3, Go.Operand.const (Go.Value.int Go.IntKind.i64 2))], type := 119, pos := "law.go:275", after := #[{ on := 5, ground := Go.Ground.data }, { on := 7, ground := Go.Ground.data }], guard := none }) (v := ?_) rfl (by kernel_rfl) (fun _ _ _ h => h) (Or.inl ⟨by rfl, fun W hW => ?_⟩) hS ?_
              rotate_left
              · obtain ⟨hw1, hw2, hw3⟩ := hW; go_simp; (try go_bits); (try rw [if_pos (by omega)]); (try with_reducible rfl)
              (try simp only [Act.put, List.setIfInBounds_toArray, List.set_cons_succ, List.set_cons_zero])
              refine wpE_last (oi := { dst := some 133, op := Go.Op.call { callee := Go.Callee.value (Go.Operand.func 67), args := #[Go.Operand.tmp 127, Go.Operand.tmp 132], argTypes := #[109, 119] }, type := 0, pos := "law.go:275", after := #[{ on := 3, ground := Go.Ground.data }, { on := 8, ground := Go.Ground.data }], guard := none }) rfl (by kernel_rfl) (by kernel_rfl) (by rfl) (fun K hK => ?_)
              go_simp
              refine HPu2.out.mono ?_; rintro e w7 ⟨rfl, own7, hS7, hT7⟩
              have hF7 := H6.out.oneH r ur H5.out.2.1.2 hS7 (fun x hx => Or.inr hx) (H6.out.hh.step hS7 (by omega) (by omega)) hT7
              have H7 := Lib.hid hF7
              clear hS7 hT7 hF7 HPu2 H6
              refine hK _ _ ?_; clear hK K
              clear hS q2 f2 f3
              go_wp2
              go_meet
              exact ⟨own7, bs, _, H7.out, H3.out.2.1, H3.out.2.2.1⟩
          case rest =>
            rename World => wr
            have HC := hcut
            clear hcut H3 d0 d1 hkc
            obtain ⟨own6, bs6, L6, hF, hbl, hev⟩ := HC.out
            have HB := Lib.hid (And.intro hbl (And.intro hev (And.intro (hbl.trans HPS.out.1) hF.sh.2.2.2)))
            have H4 := Lib.hid hF
            clear hF hbl hev HC
            go_wp2
            go_loopw [19, 20] (fun idl i wy => ∃ (j : Nat), j ≤ k + 2 ∧ i = .int .i64 ((j : Int) - 1) ∧ idl = .bool (idleTo bs6 (j - 1)) ∧ Hid (∃ own', SS w own' wy sp hp bs6 bs6 u9 ps u10 us L6 L6)) (fun _ i _ => k + 2 - (intOf i + 1).toNat)
            case atStart => exact ⟨0, by omega, rfl, rfl, own6, H4.out⟩
            case round =>
              rename World => wy
              obtain ⟨j, hj, rfl, rfl, HR⟩ := hrel
              clear H4
              by_cases hlj : j < k + 2
              · obtain ⟨own7, hF⟩ := HR.out
                have hbk := HB.out.2.2.1
                have hcase : (j = 0 ∨ j = k + 1) ∨ ∃ q, j = q + 1 ∧ q < k := by
                  rcases Nat.eq_zero_or_pos j with h | h
                  · exact Or.inl (Or.inl h)
                  · rcases Nat.lt_or_ge (j - 1) k with h2 | h2
                    · exact Or.inr ⟨j - 1, by omega, h2⟩
                    · exact Or.inl (Or.inr (by omega))
                rcases hcase with hout | ⟨q, rfl, hqk⟩
                · have hid1 : idleTo bs6 (j - 1) = idleTo bs6 (j + 1 - 1) := by
                    rcases hout with rfl | rfl
                    · rfl
                    · show idleTo bs6 (k + 1 - 1) = idleTo bs6 (k + 1 + 1 - 1)
                      rw [Nat.add_sub_cancel, Nat.add_sub_cancel]
                      unfold idleTo
                      rw [List.take_of_length_le (by omega), List.take_of_length_le (by omega)]
                  have hD := sh_Due_out hF.sh ((j : Int) - 1) (by rcases hout with rfl | rfl <;> omega)
                  have HS := Lib.hid (show Calls Try.prog 70 #[.slice none 0 0, .slice none 0 0] wy fun e w' => e = .returned (.bool true) ∧ ∃ k, w' = wy.drewN k from same_ints (w := wy) (A := none) (B := none) (a := 0) (b := 0) (ca := 0) (cb := 0) (l := []) (by decide) ⟨rfl, fun h => by simp at h⟩ ⟨rfl, fun h => by simp at h⟩)
                  have H5 := Lib.hid hF
                  rw [hid1]
                  have HID := Lib.hid hid1
                  obtain ⟨bi, hbi⟩ : ∃ bi, idleTo bs6 (j + 1 - 1) = bi := ⟨_, rfl⟩
                  rw [hbi]
                  have HBI := Lib.hid hbi
                  clear hF HR hid1 hbi hbk
                  rcases hout with rfl | rfl
                  · rw [show (((0 : Nat) : Int) - 1) = -1 from rfl] at hD ⊢
                    have HD := Lib.hid hD
                    clear hD
                    cases bi
                    all_goals
                      go_wp2_with fail
                      ((with_reducible refine HD.out.mono ?_); rintro e wz ⟨rfl, rfl⟩)
                      go_wp2_with fail
                      ((with_reducible refine HS.out.mono ?_); rintro e wz ⟨rfl, q, rfl⟩)
                      have hsq : Step (fun _ => False) own7 wy own7 (wy.drewN q) := (Step.refl _ _ _).drewN q
                      have H6 := Lib.hid (H5.out.step (C := fun _ => False) hsq (fun x h => h.elim))
                      clear hsq HS HD H5
                      go_wp2
                      exact ⟨⟨1, by omega, rfl, by rw [← HBI.out], own7, H6.out⟩, by simp [intOf]⟩
                  · rw [show (((k + 1 : Nat) : Int) - 1) = (k : Int) from by omega] at hD ⊢
                    have HD := Lib.hid hD
                    clear hD
                    cases bi
                    all_goals
                      go_wp2_with fail
                      ((with_reducible refine HD.out.mono ?_); rintro e wz ⟨rfl, rfl⟩)
                      go_wp2_with fail
                      ((with_reducible refine HS.out.mono ?_); rintro e wz ⟨rfl, q, rfl⟩)
                      have hsq : Step (fun _ => False) own7 wy own7 (wy.drewN q) := (Step.refl _ _ _).drewN q
                      have H6 := Lib.hid (H5.out.step (C := fun _ => False) hsq (fun x h => h.elim))
                      clear hsq HS HD H5
                      go_wp2
                      exact ⟨⟨k + 2, by omega, by go_num, by rw [← HBI.out], own7, H6.out⟩, by simp [intOf]; omega⟩
                · have hqi : (((q + 1 : Nat) : Int) - 1) = (q : Int) := by omega
                  rw [hqi]
                  clear hqi
                  have hqk' : (q : Int) < (k : Int) := by omega
                  have hqk2 : (q : Int) ≤ (k : Int) := by omega
                  obtain ⟨b, hb⟩ : ∃ b, bs6[q]? = some b := ⟨_, List.getElem?_eq_getElem (by rw [hbk]; exact hqk)⟩
                  have hid := idleTo_succ bs6 q b hb
                  obtain ⟨pr, hpr⟩ : ∃ pr, ps[q]? = some pr := ⟨_, List.getElem?_eq_getElem (by rw [HPS.out.1]; exact hqk)⟩
                  obtain ⟨ur, hur⟩ : ∃ ur, us[q]? = some ur := ⟨_, List.getElem?_eq_getElem (by rw [HPS.out.2, HPS.out.1]; exact hqk)⟩
                  obtain ⟨A1, cap1, hv1, _, hf1⟩ := hF.r1.form
                  obtain ⟨g1, o1, rfl, ho1, hg1, _, hc1⟩ := hf1 (by rw [HPS.out.1]; omega)
                  have r1 := hc1 q _ (ptrS_at ps q pr hpr)
                  rw [HPS.out.1] at hv1
                  obtain ⟨A2, cap2, hv2, _, hf2⟩ := hF.r2.form
                  obtain ⟨g2, o2, rfl, ho2, hg2, _, hc2⟩ := hf2 (by rw [HPS.out.2, HPS.out.1]; omega)
                  have r2 := hc2 q _ (ptrS_at us q ur hur)
                  rw [HPS.out.2, HPS.out.1] at hv2
                  subst hv1
                  subst hv2
                  obtain ⟨qb, rv, x0, xv, _, _, _, _, _, hrow⟩ := hF.hh.row q b hb
                  rw [hbk] at x0
                  obtain ⟨A3, cap3, hv3, _, _⟩ := hrow.form
                  subst hv3
                  have hstd : Step (fun _ => False) own7 wy own7 wy.drew := (Step.refl _ _ _).drew
                  have hFd := hF.step (C := fun _ => False) hstd (fun x h => h.elim)
                  have HE := Lib.hid (tlb_Entries (hFd.tl q pr hpr) 10)
                  obtain ⟨⟨vT, hbT, hoT, hRT⟩, _, _, hlT⟩ := hFd.ul q ur hur
                  have t1 : wy.drew.cell? ⟨ur, 1, none⟩ = some vT := hbT.cell 1
                  have hltT := hbT.lt
                  obtain ⟨AT, capT, hvT, _, _⟩ := hRT.form
                  have H5 := Lib.hid (And.intro hFd (And.intro hb (And.intro (hrow.step hstd (fun h => h)) hRT)))
                  have HID := Lib.hid hid
                  have hL16 := dueTo_len b 16
                  obtain ⟨LL, hLL⟩ : ∃ LL, dueL b = LL := ⟨_, rfl⟩
                  rw [show dueTo b 16 = LL from hLL] at hL16
                  have HLL := Lib.hid hLL
                  rw [hLL] at xv
                  subst hvT
                  obtain ⟨l, hl⟩ : ∃ l, L6 q = l := ⟨_, rfl⟩
                  rw [hl] at HE t1 hlT
                  have HLQ := Lib.hid hl
                  clear hF hstd hFd hb hid hpr hur hf1 hf2 hc1 hc2 hrow hbT hoT hRT HR hLL hl
                  show Code.wp _ _ _ _ _
                  rw [show q + 1 - 1 = q from rfl]
                  go_wp2_with fail
                  refine wpE_region (S := fun (W' : World) => W'.cell? ⟨g1, o1 + q, none⟩ = some (.pointer (some ⟨pr, 0, none⟩)) ∧ W'.cell? ⟨g2, o2 + q, none⟩ = some (.pointer (some ⟨ur, 0, none⟩)) ∧ W'.cell? ⟨ur, 1, none⟩ = some (.slice AT l.length capT)) (s := 13) (by kernel_rfl) ?_
                  have hS : (fun (W' : World) => W'.cell? ⟨g1, o1 + q, none⟩ = some (.pointer (some ⟨pr, 0, none⟩)) ∧ W'.cell? ⟨g2, o2 + q, none⟩ = some (.pointer (some ⟨ur, 0, none⟩)) ∧ W'.cell? ⟨ur, 1, none⟩ = some (.slice AT l.length capT)) _ := ⟨r1, r2, t1⟩
                  refine wpE_take (i := 0) (oi := { dst := some 153, op := Go.Op.move (Go.Operand.tmp 9), type := 104, pos := "law.go:282", after := #[], guard := none }) (v := ?_) rfl (by kernel_rfl) (fun _ _ _ h => h) (Or.inl ⟨by rfl, fun W hW => ?_⟩) hS ?_
                  rotate_left
                  · obtain ⟨hw1, hw2, hw3⟩ := hW; go_simp; (try go_bits); (try rw [if_pos (by omega)]); (try with_reducible rfl)
                  (try simp only [Act.put, List.setIfInBounds_toArray, List.set_cons_succ, List.set_cons_zero])
                  refine wpE_take (i := 1) (oi := { dst := some 154, op := Go.Op.move (Go.Operand.tmp 20), type := 3, pos := "law.go:282", after := #[], guard := none }) (v := ?_) rfl (by kernel_rfl) (fun _ _ _ h => h) (Or.inl ⟨by rfl, fun W hW => ?_⟩) hS ?_
                  rotate_left
                  · obtain ⟨hw1, hw2, hw3⟩ := hW; go_simp; (try go_bits); (try rw [if_pos (by omega)]); (try with_reducible rfl)
                  (try simp only [Act.put, List.setIfInBounds_toArray, List.set_cons_succ, List.set_cons_zero])
                  refine wpE_take (i := 2) (oi := { dst := some 155, op := Go.Op.indexAddr 104 (Go.Operand.tmp 153) (Go.Operand.tmp 154), type := 0, pos := "law.go:282", after := #[{ on := 0, ground := Go.Ground.data }, { on := 1, ground := Go.Ground.data }], guard := none }) (v := ?_) rfl (by kernel_rfl) (fun _ _ _ h => h) (Or.inl ⟨by rfl, fun W hW => ?_⟩) hS ?_
                  rotate_left
                  · obtain ⟨hw1, hw2, hw3⟩ := hW; go_simp; (try go_bits); (try rw [if_pos (by omega)]); (try with_reducible rfl)
                  (try simp only [Act.put, List.setIfInBounds_toArray, List.set_cons_succ, List.set_cons_zero])
                  refine wpE_take (i := 3) (oi := { dst := some 156, op := Go.Op.load 106 (Go.Operand.tmp 155), type := 106, pos := "law.go:282", after := #[{ on := 2, ground := Go.Ground.data }], guard := none }) (v := ?_) rfl (by kernel_rfl) (fun _ _ _ h => h) (Or.inl ⟨by rfl, fun W hW => ?_⟩) hS ?_
                  rotate_left
                  · obtain ⟨hw1, hw2, hw3⟩ := hW; go_simp; (try go_bits); (try rw [if_pos (by omega)]); (try with_reducible rfl)
                  (try simp only [Act.put, List.setIfInBounds_toArray, List.set_cons_succ, List.set_cons_zero])
                  refine wpE_take (i := 5) (oi := { dst := some 158, op := Go.Op.move (Go.Operand.tmp 10), type := 105, pos := "law.go:282", after := #[], guard := none }) (v := ?_) rfl (by kernel_rfl) (fun _ _ _ h => h) (Or.inl ⟨by rfl, fun W hW => ?_⟩) hS ?_
                  rotate_left
                  · obtain ⟨hw1, hw2, hw3⟩ := hW; go_simp; (try go_bits); (try rw [if_pos (by omega)]); (try with_reducible rfl)
                  (try simp only [Act.put, List.setIfInBounds_toArray, List.set_cons_succ, List.set_cons_zero])
                  refine wpE_take (i := 6) (oi := { dst := some 159, op := Go.Op.move (Go.Operand.tmp 20), type := 3, pos := "law.go:282", after := #[], guard := none }) (v := ?_) rfl (by kernel_rfl) (fun _ _ _ h => h) (Or.inl ⟨by rfl, fun W hW => ?_⟩) hS ?_
                  rotate_left
                  · obtain ⟨hw1, hw2, hw3⟩ := hW; go_simp; (try go_bits); (try rw [if_pos (by omega)]); (try with_reducible rfl)
                  (try simp only [Act.put, List.setIfInBounds_toArray, List.set_cons_succ, List.set_cons_zero])
                  refine wpE_take (i := 7) (oi := { dst := some 160, op := Go.Op.indexAddr 105 (Go.Operand.tmp 158) (Go.Operand.tmp 159), type := 0, pos := "law.go:282", after := #[{ on := 5, ground := Go.Ground.data }, { on := 6, ground := Go.Ground.data }], guard := none }) (v := ?_) rfl (by kernel_rfl) (fun _ _ _ h => h) (Or.inl ⟨by rfl, fun W hW => ?_⟩) hS ?_
                  rotate_left
                  · obtain ⟨hw1, hw2, hw3⟩ := hW; go_simp; (try go_bits); (try rw [if_pos (by omega)]); (try with_reducible rfl)
                  (try simp only [Act.put, List.setIfInBounds_toArray, List.set_cons_succ, List.set_cons_zero])
                  refine wpE_take (i := 8) (oi := { dst := some 161, op := Go.Op.load 109 (Go.Operand.tmp 160), type := 109, pos := "law.go:282", after := #[{ on := 7, ground := Go.Ground.data }], guard := none }) (v := ?_) rfl (by kernel_rfl) (fun _ _ _ h => h) (Or.inl ⟨by rfl, fun W hW => ?_⟩) hS ?_
                  rotate_left
                  · obtain ⟨hw1, hw2, hw3⟩ := hW; go_simp; (try go_bits); (try rw [if_pos (by omega)]); (try with_reducible rfl)
                  (try simp only [Act.put, List.setIfInBounds_toArray, List.set_cons_succ, List.set_cons_zero])
                  refine wpE_take (i := 9) (oi := { dst := some 162, op := Go.Op.nilCheck (Go.Operand.tmp 161), type := 0, pos := "law.go:282", after := #[{ on := 8, ground := Go.Ground.data }], guard := none }) (v := ?_) rfl (by kernel_rfl) (fun _ _ _ h => h) (Or.inl ⟨by rfl, fun W hW => ?_⟩) hS ?_
                  rotate_left
                  · obtain ⟨hw1, hw2, hw3⟩ := hW; go_simp; (try go_bits); (try rw [if_pos (by omega)]); (try with_reducible rfl)
                  (try simp only [Act.put, List.setIfInBounds_toArray, List.set_cons_succ, List.set_cons_zero])
                  refine wpE_take (i := 10) (oi := { dst := some 163, op := Go.Op.fieldAddr 127 (Go.Operand.tmp 162) 1, type := 0, pos := "law.go:282", after := #[{ on := 9, ground := Go.Ground.data }], guard := none }) (v := ?_) rfl (by kernel_rfl) (fun _ _ _ h => h) (Or.inl ⟨by rfl, fun W hW => ?_⟩) hS ?_
                  rotate_left
                  · obtain ⟨hw1, hw2, hw3⟩ := hW; go_simp; (try go_bits); (try rw [if_pos (by omega)]); (try with_reducible rfl)
                  (try simp only [Act.put, List.setIfInBounds_toArray, List.set_cons_succ, List.set_cons_zero])
                  refine wpE_take (i := 11) (oi := { dst := some 164, op := Go.Op.load 124 (Go.Operand.tmp 163), type := 124, pos := "law.go:282", after := #[{ on := 10, ground := Go.Ground.data }], guard := none }) (v := ?_) rfl (by kernel_rfl) (fun _ _ _ h => h) (Or.inl ⟨by rfl, fun W hW => ?_⟩) hS ?_
                  rotate_left
                  · obtain ⟨hw1, hw2, hw3⟩ := hW; go_simp; (try go_bits); (try rw [if_pos (by omega)]); (try with_reducible rfl)
                  (try simp only [Act.put, List.setIfInBounds_toArray, List.set_cons_succ, List.set_cons_zero])
                  refine wpE_only (i := 4) (oi := { dst := some 157, op := Go.Op.call { callee := Go.Callee.value (Go.Operand.func 69), args := #[Go.Operand.tmp 156], argTypes := #[106] }, type := 124, pos := "law.go:282", after := #[{ on := 3, ground := Go.Ground.data }], guard := none }) rfl (by kernel_rfl) (by rfl) (fun K hK => ?_)
                  go_simp
                  refine HE.out.mono ?_; rintro e w8 ⟨v8, rfl, hS8, hR8⟩
                  have hS : w8.cell? ⟨g1, o1 + q, none⟩ = some (.pointer (some ⟨pr, 0, none⟩)) ∧ w8.cell? ⟨g2, o2 + q, none⟩ = some (.pointer (some ⟨ur, 0, none⟩)) ∧ w8.cell? ⟨ur, 1, none⟩ = some (.slice AT l.length capT) := ⟨(hS8.upd.cell (p := ⟨g1, o1 + q, none⟩) hg1 (fun h => h)).trans r1, (hS8.upd.cell (p := ⟨g2, o2 + q, none⟩) hg2 (fun h => h)).trans r2, (hS8.upd.cell (p := ⟨ur, 1, none⟩) hltT (fun h => h)).trans t1⟩
                  obtain ⟨A8, cap8, hv8, _, _⟩ := hR8.form
                  have HRR := Lib.hid (And.intro hR8 (And.intro (H5.out.2.2.2.step hS8 (fun h => h)) (And.intro (H5.out.1.step (C := fun _ => False) hS8 (fun x h => h.elim)) (H5.out.2.2.1.step hS8 (fun h => h)))))
                  subst hv8
                  clear hS8 hR8 HE
                  refine hK _ _ hS ?_; clear hK K
                  (try simp only [Act.put, List.setIfInBounds_toArray, List.set_cons_succ, List.set_cons_zero])
                  refine wpE_only (i := 12) (oi := { dst := some 165, op := Go.Op.call { callee := Go.Callee.value (Go.Operand.func 68), args := #[Go.Operand.tmp 157, Go.Operand.tmp 164], argTypes := #[124, 124] }, type := 4, pos := "law.go:282", after := #[{ on := 4, ground := Go.Ground.data }, { on := 11, ground := Go.Ground.data }, { on := 4, ground := Go.Ground.chain }], guard := none }) rfl (by kernel_rfl) (by rfl) (fun K hK => ?_)
                  go_simp
                  have hr1 := HRR.out.1.reads rfl
                  have hr2 := HRR.out.2.1.reads (by rw [HLQ.out])
                  rw [HLQ.out] at hr2
                  refine (same_trans (by omega) hr1 hr2).mono ?_; rintro e w9 ⟨rfl, qq, rfl⟩
                  have hsq : Step (fun _ => False) _ w8 _ (w8.drewN qq) := (Step.refl _ (ext own7 wy.drew 10) _).drewN qq
                  have H8 := Lib.hid (And.intro (HRR.out.2.2.1.step (C := fun _ => False) hsq (fun x h => h.elim)) (HRR.out.2.2.2.step hsq (fun h => h)))
                  clear hr1 hr2 hsq HRR
                  refine hK _ _ hS ?_; clear hK K
                  (try simp only [Act.put, List.setIfInBounds_toArray, List.set_cons_succ, List.set_cons_zero])
                  refine wpE_last (oi := { dst := some 166, op := Go.Op.unOp Go.UnOp.not 4 (Go.Operand.tmp 165), type := 4, pos := "law.go:282", after := #[{ on := 12, ground := Go.Ground.data }], guard := none }) rfl (by kernel_rfl) (by kernel_rfl) (by rfl) (fun K hK => ?_)
                  go_simp; (try go_bits); refine hK _ _ ?_; clear hK K
                  clear hS r1 r2 t1
                  have hD := sh_Due H8.out.1.sh q b H5.out.2.1 10
                  rw [HLL.out] at hD
                  have HD := Lib.hid hD
                  have hid := HID.out
                  rw [HLL.out] at hid
                  have HID2 := Lib.hid hid
                  obtain ⟨bi, hbi⟩ : ∃ bi, idleTo bs6 q = bi := ⟨_, rfl⟩
                  rw [hbi]
                  have HBI := Lib.hid hbi
                  have H9 := Lib.hid (And.intro H8.out.1 H8.out.2)
                  generalize ext own7 wy.drew 10 = own8 at *
                  generalize w8.drewN qq = w9 at *
                  clear hbi hid hD HID H8 H5
                  have hcs : (bi = false) ∨ (bi = true ∧ 0 < LL.length ∧ ((LL.length : Int) == 0) = false) ∨ (bi = true ∧ LL = []) := by
                    cases bi with
                    | false => exact Or.inl rfl
                    | true =>
                      rcases Nat.eq_zero_or_pos LL.length with h | h
                      · exact Or.inr (Or.inr ⟨rfl, List.eq_nil_of_length_eq_zero h⟩)
                      · exact Or.inr (Or.inl ⟨rfl, h, by simp; intro e; rw [e] at h; cases h⟩)
                  rcases hcs with rfl | ⟨rfl, hpos, hz⟩ | ⟨rfl, rfl⟩
                  all_goals
                    have HLL2 := HLL
                    clear HLL
                    go_wp2_with fail
                    ((with_reducible refine HD.out.mono ?_); rintro e w10 ⟨v10, rfl, hS10, hR10⟩)
                    obtain ⟨A10, cap10, hv10, _, _⟩ := hR10.form
                    have hra := hR10.reads hv10
                    have hrb := (H9.out.2.step hS10 (fun h => h)).reads (by rw [HLL2.out])
                    rw [HLL2.out] at hrb
                    have HS := Lib.hid (same_ints (cb := cap3) (ca := cap10) (by omega) hra hrb)
                    have HF10 := Lib.hid (H9.out.1.step (C := fun x => x < 20 ∧ x ≠ 0) (hS10.mono (fun _ h => h.elim)) (fun x h => h))
                    subst hv10
                    clear hS10 hR10 hra hrb HD H9
                    simp only [List.length_nil] at HS ⊢
                    go_wp2_with fail
                    ((with_reducible refine HS.out.mono ?_); rintro e w11 ⟨rfl, q2, rfl⟩)
                    have hsq : Step (fun _ => False) _ w10 _ (w10.drewN q2) := (Step.refl _ (ext own8 w9 10) _).drewN q2
                    have H11 := Lib.hid (HF10.out.step (C := fun _ => False) hsq (fun x h => h.elim))
                    clear hsq HS HF10
                    go_wp2
                    exact ⟨⟨q + 2, by omega, by go_num, by rw [show q + 2 - 1 = q + 1 from rfl, HID2.out, HBI.out]; first | rfl | exact bool_pos (by assumption), _, H11.out⟩, by simp [intOf]; omega⟩
              · obtain rfl : j = k + 2 := by omega
                obtain ⟨own7, hF⟩ := HR.out
                have hI := sh_Idle hF.sh
                have hall := idleTo_all HB.out.2.2.2 HB.out.2.1 (j := k + 2 - 1) (by rw [HB.out.2.2.1]; omega)
                rw [hall]
                have hki : (((k + 2 : Nat) : Int) - 1) = (k : Int) + 1 := by omega
                rw [hki]
                obtain ⟨al, hal⟩ : ∃ al, bs6.all (· == 0) = al := ⟨_, rfl⟩
                rw [hal] at hI ⊢
                have HI2 := Lib.hid hI
                have H5 := Lib.hid (show SB w sp hp u9 ps u10 us wy from ⟨own7, bs6, L6, hF, HB.out.1, HB.out.2.1⟩)
                have hkk : ¬ ((k : Int) + 1 ≤ (k : Int)) := by omega
                clear hF hI hall hki hal HR hlj
                cases al
                all_goals
                  go_wp2_with fail
                  ((with_reducible refine HI2.out.mono ?_); rintro e wz ⟨rfl, rfl⟩)
                  clear HI2
                  go_wp2
                  exact ⟨⟨i + 1, by omega, by go_num, H5.out⟩, by simp [intOf]; omega⟩
        · have HU := Lib.hid (show Upd (fun _ => False) w wp from by obtain ⟨o, b, L, hF, _⟩ := HR.out; exact hF.st.upd.mono (fun i hi h => h rfl))
          have hmi : i = m := by omega
          subst hmi
          clear HR hlt
          go_wp2_with fail
          refine (awake10 wp).mono ?_; rintro e w8 ⟨rfl, hU8⟩
          have H8 := Lib.hid (HU.out.trans hU8)
          clear hU8 HU
          go_wp2
          go_ret
          exact ⟨rfl, H8.out⟩
end Go.Proofs.Ytpodeclkgcgpgaa
