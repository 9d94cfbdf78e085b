import Derived.Test.YtpodeclkgcgpgaaSp7
import Derived.Laws.StructEq
/- citadellaw10.awake -/
namespace Go.Proofs.Ytpodeclkgcgpgaa
set_option linter.unusedVariables false
open Go.RowKit
set_option maxRecDepth 100000

theorem a10_bl : BlOk 12 (s10 12) [1] 1 524288 := by
  have e1 : en (s10 12).m 1 2 = 0 := by kernel_rfl
  have e2 : (lvS (s10 12) [1] 1 2).1 = 2 := by kernel_rfl
  have e3 : en (lvS (s10 12) [1] 1 2).2.1.m 2 0 = 0 := by kernel_rfl
  have e4 : freeP (lvS (s10 12) [1] 1 2).2.1.ow = some 3 := by kernel_rfl
  refine ⟨⟨by decide, by decide, fun h => absurd e1 h, fun _ => ⟨2, by kernel_rfl⟩⟩, ?_⟩
  show lvOk 12 (lvS (s10 12) [1] 1 2).2.1 (lvS (s10 12) [1] 1 2).1 0
  rw [e2]
  exact ⟨by decide, by decide, fun h => absurd e3 h, fun _ => ⟨3, e4⟩⟩
theorem a10_pg : PgOk 12 (mapS (s10 12) [1] 1 524288 9 6).m 1 524288 9 6 := by
  have e1 : lv1 (mapS (s10 12) [1] 1 524288 9 6).m 1 524288 = 2049 := by kernel_rfl
  have e0 : lv0 (mapS (s10 12) [1] 1 524288 9 6).m 1 524288 = 3073 := by kernel_rfl
  exact ⟨by decide, ⟨by decide, by rw [e1]; intro _; decide, by rw [e0]; intro _ _; decide⟩, by kernel_rfl, by decide⟩
theorem a10_lv : lv1 (mapS (s10 12) [1] 1 524288 9 6).m 1 524288 = 2049 ∧ lv0 (mapS (s10 12) [1] 1 524288 9 6).m 1 524288 = 3073 := ⟨by kernel_rfl, by kernel_rfl⟩
theorem a10_ts : (bldP (s10 12) [1] 1 524288).2.2 = [1, 2, 3] := by kernel_rfl
theorem a10_nf : (fndP (s10 12).m 1 524288).2.2.2 = false := by kernel_rfl
theorem a10_dn : (dnP (s10 12).m 1 524288).2 ≤ countP (s10 12).ow 0 := by
  rw [show (dnP (s10 12).m 1 524288).2 = 2 from by kernel_rfl, show countP (s10 12).ow 0 = 10 from by kernel_rfl]; decide
theorem page_eq (a b c : Int) (w : World) : (Op.equalIn 10000 85 (.agg #[.int .u64 a, .int .i64 b, .int .i64 c]) (.agg #[.int .u64 a, .int .i64 b, .int .i64 c])).run Try.prog w = .ok true w := by
  have u3 := Try.underlying3
  have u30 := Try.underlying30
  have hS : Try.prog.underlying 85 = some (.struct (Try.prog.fieldsOf 85)) := by kernel_rfl
  have hp : Try.prog.stoodInHeld 85 = false := by kernel_rfl
  rw [show (10000 : Nat) = 9999 + 1 from rfl, run_equalIn_agg w 9999 85 _ _ hS hp]
  simp only [Program.fieldsOf, Try.underlying85]
  go_simp
set_option maxHeartbeats 2000000 in
theorem awake10 (w : World) : Calls Try.prog 44 #[] w fun e w' => e = .returned (.bool true) ∧ Upd (fun _ => False) w w' := by
  go_enter Try.func44, Try.ntmps44
  go_wp2_with fail
  refine (law10_New w).mono ?_
  rintro e w1 ⟨sp, sq, pp, pq, p1, p2, own1, rfl, hS1, hG1⟩
  have hst : Step (fun _ => False) own1 w1 (ext own1 w1 0) (w1.alloc (.cells #[.pointer (some ⟨sp, 0, none⟩), .pointer (some ⟨sq, 0, none⟩), .pointer (some ⟨pp, 0, none⟩), .pointer (some ⟨pq, 0, none⟩), .pointer (some ⟨p1, 0, none⟩), .pointer (some ⟨p2, 0, none⟩)] 78)) := ⟨(Upd.refl _ _).alloc _, fun b hb => ext_old _ _ _ hb⟩
  have hB := Blk.new w1 78 #[.pointer (some ⟨sp, 0, none⟩), .pointer (some ⟨sq, 0, none⟩), .pointer (some ⟨pp, 0, none⟩), .pointer (some ⟨pq, 0, none⟩), .pointer (some ⟨p1, 0, none⟩), .pointer (some ⟨p2, 0, none⟩)]
  have H1 := Lib.hid (And.intro (hS1.trans (hst.mono (fun _ h => h.elim))) (And.intro (hG1.step hst (by simp)) (And.intro hB (show ext own1 w1 0 w1.heap.size = 0 from ext_new _ _ _ (Nat.le_refl _)))))
  clear hS1 hG1 hst hB
  have hb0 := H1.out.2.2.1.cell 0
  simp only [List.getElem?_toArray, List.getElem?_cons_zero] at hb0
  have HMp := Lib.hid (sp_Map (t0 := 1) (page := 524288) (fr := 9) (p := 6) H1.out.2.1 (by decide) (by decide) (by decide) (by unfold permOk; omega) a10_bl a10_nf a10_dn)
  go_wp2_with fail
  generalize w1.heap.size = ob at *
  refine HMp.out.mono ?_; rintro e w2 ⟨rfl, own2, hS2, hG2⟩
  have hG2' : GS own2 w2 sp p1 pp 1 12 1 2 (mapS (s10 12) [1] 1 524288 9 6) [1, 2, 3] := by rw [← a10_ts]; exact hG2
  have H2 := Lib.hid (And.intro (H1.out.1.trans (hS2.mono (fun x h => by omega))) (And.intro hG2' (hS2.blk H1.out.2.2.1 H1.out.2.2.2 (by omega))))
  clear hS2 hG2 hG2' HMp H1 hb0
  have hb0 := H2.out.2.2.1.cell 0
  simp only [List.getElem?_toArray, List.getElem?_cons_zero] at hb0
  have HF := Lib.hid (sp_FindE (t0 := 1) H2.out.2.1.1.2 H2.out.2.1.2 a10_pg 524288 (by decide))
  go_wp2_with fail
  refine HF.out.mono ?_; rintro e w3 ⟨rfl, hS3⟩
  have hst : Step (fun _ => False) own2 w2 own2 (w3.alloc (.cells #[.int .u64 524288, .int .i64 9, .int .i64 6] 85)) := hS3.trans (step_alloc own2 w3 _)
  have hB3 : Blk (w3.alloc (.cells #[.int .u64 524288, .int .i64 9, .int .i64 6] 85)) w3.heap.size 85 #[.int .u64 524288, .int .i64 9, .int .i64 6] := Blk.new w3 _ _
  have H3 := Lib.hid (And.intro (H2.out.1.trans (hst.mono (fun _ h => h.elim))) (And.intro (H2.out.2.1.step hst (by simp)) (hst.blk H2.out.2.2.1 H2.out.2.2.2 (fun h => h))))
  have hb3 := (hS3.blk H2.out.2.2.1 H2.out.2.2.2 (fun h => h)).1
  have hlb := hb3.lt
  clear hS3 hst HF H2 hb0
  have hb0 := hb3.cell 0
  simp only [List.getElem?_toArray, List.getElem?_cons_zero] at hb0
  clear hb3
  have qe := page_eq 524288 9 6
  have HW := Lib.hid (sp_Write_ok (t0 := 1) (fr := fun _ => 9) (pm := fun _ => 6) (D := fun f => f = 9) 2147483664 8 5 (by omega) (by omega) (by unfold wfU; omega) H3.out.2.1
    (fun m' hm page h1 h2 => by
      obtain rfl : page = 524288 := by omega
      exact a10_pg.keep (D := fun f => f = 9) hm (by decide) (by rw [a10_lv.1]; decide) (by rw [a10_lv.2]; decide)) (fun _ _ _ => rfl) (fun _ _ _ => by decide))
  go_wp2_with fail
  refine HW.out.mono ?_; rintro e w4 ⟨rfl, own4, hS4, hG4⟩
  have H4 := Lib.hid (And.intro (H3.out.1.trans (hS4.mono (fun x h => by omega))) (And.intro hG4 (hS4.blk H3.out.2.2.1 H3.out.2.2.2 (by omega))))
  clear hS4 hG4 HW H3 hb0
  have hb0 := H4.out.2.2.1.cell 0
  simp only [List.getElem?_toArray, List.getElem?_cons_zero] at hb0
  have HT := Lib.hid (sp_Tables H4.out.2.1.2 (by decide))
  go_wp2_with fail
  refine HT.out.mono ?_; rintro e w5 ⟨v5, rfl, hR5, hU5⟩
  obtain ⟨A5, cap5, rfl, _⟩ := hR5.form
  have HU := Lib.hid ((H4.out.1.upd0 (by omega)).trans hU5)
  clear hR5 hU5 HT H4 hb0
  go_wp2
  go_ret
  exact ⟨rfl, HU.out⟩
end Go.Proofs.Ytpodeclkgcgpgaa
