import Derived.Test.YtpodeclkgcgpgaaSp1
/- A guest's space: down, told, Find. -/
namespace Go.Proofs.Ytpodeclkgcgpgaa
set_option linter.unusedVariables false
open Go.RowKit
set_option maxRecDepth 100000

/-- a space at block sp; its tables ts -/
def SpAt (own : Nat → Nat) (w : World) (sp rp pp : Nat) (vmid : Int) (ts : List Int) : Prop :=
  ∃ v, (Blk w sp 181 #[.pointer (some ⟨rp, 0, none⟩), .pointer (some ⟨pp, 0, none⟩), .int .i64 vmid, v] ∧ own sp = 5) ∧ Row own 6 w v ts
theorem SpAt.step {C : Nat → Prop} {own own' : Nat → Nat} {w w' : World} {sp rp pp : Nat} {vmid : Int} {ts : List Int} (h : SpAt own w sp rp pp vmid ts) (hS : Step C own w own' w') (h5 : ¬ C 5) (h6 : ¬ C 6) : SpAt own' w' sp rp pp vmid ts := by
  obtain ⟨v, hB, hR⟩ := h
  exact ⟨v, hS.blk hB.1 hB.2 h5, hR.step hS h6⟩
/-- its first table -/
theorem SpAt.cells {own : Nat → Nat} {w : World} {sp rp pp : Nat} {vmid : Int} {t0 : Int} {ts : List Int} (h : SpAt own w sp rp pp vmid (t0 :: ts)) :
    ∃ g cap, w.cell? ⟨sp, 0, none⟩ = some (.pointer (some ⟨rp, 0, none⟩)) ∧ w.cell? ⟨sp, 1, none⟩ = some (.pointer (some ⟨pp, 0, none⟩)) ∧ w.cell? ⟨sp, 2, none⟩ = some (.int .i64 vmid) ∧ w.cell? ⟨sp, 3, none⟩ = some (.slice (some ⟨g, 0, none⟩) (ts.length + 1) cap) ∧ w.cell? ⟨g, 0, none⟩ = some (.int .i64 t0) ∧ sp < w.heap.size ∧ g < w.heap.size := by
  obtain ⟨v, hB, hR⟩ := h
  obtain ⟨A, cap, rfl, hf⟩ := hR.form
  obtain ⟨g, rfl, _, hg, hc⟩ := hf (by simp)
  exact ⟨g, cap, hB.1.cell 0, hB.1.cell 1, hB.1.cell 2, hB.1.cell 3, hc 0 t0 rfl, hB.1.lt, hg⟩
theorem and511 (x : Nat) (hx : x < 18446744073709551616) : bits .and .u64 (x : Int) 511 = ((x % 512 : Nat) : Int) := by
  rw [show (511 : Int) = ((511 : Nat) : Int) from rfl, u64_and_nat x 511 hx (by decide), show (511 : Nat) = 2 ^ 9 - 1 from rfl, Nat.and_two_pow_sub_one_eq_mod]
theorem info_u64 : (Try.prog.info? 30).map (fun i => (i.zero, i.size, i.bytes)) = some (some (.int .u64 0), 1, 8) := by kernel_rfl
theorem u64_slice2 (x y : Int) (w : World) : (Instr.buildSlice 140 2 #[(0, .int .u64 x), (1, .int .u64 y)]).run Try.prog w = .ok (.slice (some ⟨w.heap.size, 0, none⟩) 2 2) (w.alloc (.cells #[.int .u64 x, .int .u64 y] 30)) := by
  obtain ⟨ie, hi, hz, hs, hb⟩ := info_parts info_u64
  refine run_buildSlice w _ _ 2 _ #[.int .u64 x, .int .u64 y] ie _ Try.underlying140 hi hz (by rw [hs]; omega) (by rw [hs]; omega) ?_
  rw [hs]; kernel_rfl
theorem st_path (page : Nat) (hp : page < 134217728) (w : World) :
    Calls Try.prog 136 #[.int .u64 (page : Int)] w fun e w' => ∃ b, e = .returned (.slice (some ⟨b, 0, none⟩) 2 2) ∧ Upd (fun _ => False) w w' ∧ w.heap.size ≤ b ∧ Blk w' b 30 #[.int .u64 ((page / 262144 : Nat) : Int), .int .u64 ((page / 512 % 512 : Nat) : Int)] := by
  have e1 : ((page : Int) / 262144) = ((page / 262144 : Nat) : Int) := by omega
  have e2 : bits .and .u64 ((page : Int) / 512) 511 = ((page / 512 % 512 : Nat) : Int) := by
    rw [show ((page : Int) / 512) = ((page / 512 : Nat) : Int) from by omega, and511 _ (by omega)]
  have H := Lib.hid (And.intro e1 e2)
  have HB := Lib.hid (Blk.new w 30 #[.int .u64 ((page / 262144 : Nat) : Int), .int .u64 ((page / 512 % 512 : Nat) : Int)])
  clear e1 e2
  go_enter Try.func136, Try.ntmps136
  go_wp2
  go_ret
  rw [H.out.1, H.out.2]
  exact ⟨_, rfl, (Upd.refl _ _).alloc _, Nat.le_refl _, HB.out⟩
/-- what the tables of a page come to: the table of level 0, how many tables are wanted -/
def lv1 (m : Nat → Int) (t0 page : Nat) : Nat := en m t0 (page / 262144)
def lv0 (m : Nat → Int) (t0 page : Nat) : Nat := en m (lv1 m t0 page / 1024) (page / 512 % 512)
def dnP (m : Nat → Int) (t0 page : Nat) : Nat × Nat := if lv1 m t0 page = 0 then (0, 2) else if lv0 m t0 page = 0 then (0, 1) else (lv0 m t0 page / 1024, 0)
structure DnOk (n : Nat) (m : Nat → Int) (t0 page : Nat) : Prop where
  h0 : t0 < n
  h1 : lv1 m t0 page ≠ 0 → lv1 m t0 page / 1024 < n
  h2 : lv1 m t0 page ≠ 0 → lv0 m t0 page ≠ 0 → lv0 m t0 page / 1024 < n
section
variable {own : Nat → Nat} {c rp sp pp n t0 page : Nat} {vmid : Int} {ts : List Int} {m : Nat → Int} {w : World}
set_option maxHeartbeats 1000000 in
theorem sp_down (hM : MemAt ramK own c w rp 0 n m) (hS : SpAt own w sp rp pp vmid ((t0 : Int) :: ts)) (hd : DnOk n m t0 page) (hp : page < 134217728) :
    Calls Try.prog 94 #[.pointer (some ⟨sp, 0, none⟩), .int .u64 (page : Int)] w fun e w' => e = .returned (.tuple #[.int .i64 ((dnP m t0 page).1 : Int), .int .i64 ((dnP m t0 page).2 : Int)]) ∧ Step (fun _ => False) own w own w' := by
  obtain ⟨g, cap, s0, s1, s2, s3, sg, lsp, lg⟩ := hS.cells
  have hn := hM.sizes.2.2
  have HM := Lib.hid hM
  have HP := Lib.hid (st_path page hp w)
  clear hM hS s1 s2
  go_enter Try.func94, Try.ntmps94
  go_wp2_with fail
  refine HP.out.mono ?_; rintro e w1 ⟨pb, rfl, hU1, _, hpB⟩
  have hp0 := hpB.cell 0
  have hp1 := hpB.cell 1
  have lpb := hpB.lt
  clear hpB
  have hS1 : Step (fun _ => False) own w own w1 := ⟨hU1, fun _ _ => rfl⟩
  have t3 := (hU1.cell (p := ⟨sp, 0, none⟩) lsp (fun h => h)).trans s0
  have H1 := Lib.hid hS1
  have HH := Lib.hid (And.intro hp0 (And.intro hp1 t3))
  have LP := Lib.hid (And.intro lpb (Nat.lt_of_lt_of_le lsp hU1.size))
  clear hU1 hS1 HP s0 s3 sg hp0 hp1 t3 lsp lg lpb
  go_wp2
  go_loopw [4, 19] (fun tb i wr => ∃ (j tN : Nat), j ≤ 2 ∧ i = .int .i64 (j : Int) ∧ tb = .int .i64 (tN : Int) ∧ Hid ((j = 0 → tN = t0) ∧ (1 ≤ j → lv1 m t0 page ≠ 0) ∧ (j = 1 → tN = lv1 m t0 page / 1024) ∧ (j = 2 → lv0 m t0 page ≠ 0 ∧ tN = lv0 m t0 page / 1024) ∧ tN < n ∧ Step (fun _ => False) own w own wr ∧ Upd (fun _ => False) w1 wr)) (fun _ i _ => 2 - (intOf i).toNat)
  case atStart => exact ⟨0, t0, by omega, rfl, rfl, fun _ => rfl, fun h => by omega, fun h => by omega, fun h => by omega, hd.h0, H1.out, Upd.refl _ _⟩
  case round =>
    obtain ⟨j, tN, hj, rfl, rfl, HR⟩ := hrel
    obtain ⟨e0, e1, e2, e3, hlt, hSt, hUp⟩ := HR.out
    have q0 := (hUp.cell (p := ⟨pb, 0, none⟩) LP.out.1 (fun h => h)).trans HH.out.1
    have q1 := (hUp.cell (p := ⟨pb, 1, none⟩) LP.out.1 (fun h => h)).trans HH.out.2.1
    have q3 := (hUp.cell (p := ⟨sp, 0, none⟩) LP.out.2 (fun h => h)).trans HH.out.2.2
    have hM1 := HM.out.step hSt (fun h => h)
    have HQ := Lib.hid (And.intro hSt (And.intro hUp hM1))
    have HE := Lib.hid (And.intro e1 (And.intro e2 e3))
    clear hSt hUp hM1 HR e1 e2 e3
    have hcs : j = 0 ∨ j = 1 ∨ j = 2 := by omega
    rcases hcs with rfl | rfl | rfl
    · obtain rfl : tN = t0 := e0 rfl
      have HB := Lib.hid (view_below HQ.out.2.2 tN (page / 262144) hlt (by omega))
      rw [show en m tN (page / 262144) = lv1 m tN page from rfl] at HB
      clear q1
      by_cases hz : lv1 m tN page = 0
      · rw [hz] at HB
        have hr : dnP m tN page = (0, 2) := by unfold dnP; rw [if_pos hz]
        have HR2 := Lib.hid hr
        clear hr
        go_wp2_with fail
        refine HB.out.mono ?_; rintro e w3 ⟨rfl, hS3⟩
        have H3 := Lib.hid (HQ.out.1.trans hS3)
        clear hS3 HB HQ
        go_wp2
        go_ret2
        rw [HR2.out]
        exact ⟨rfl, H3.out⟩
      · have hne : (((lv1 m tN page : Nat) : Int) != 0) = true := by simp; omega
        rw [hne] at HB
        go_wp2_with fail
        refine HB.out.mono ?_; rintro e w3 ⟨rfl, hS3⟩
        have H3 := Lib.hid (And.intro (HQ.out.1.trans hS3) (HQ.out.2.1.trans hS3.upd))
        clear hS3 HB HQ hne
        go_wp2
        exact ⟨⟨1, lv1 m tN page / 1024, by omega, rfl, rfl, fun h => by omega, fun _ => hz, fun _ => rfl, fun h => by omega, hd.h1 hz, H3.out⟩, by simp [intOf]⟩
    · have hz := HE.out.1 (by omega)
      obtain rfl : tN = lv1 m t0 page / 1024 := HE.out.2.1 rfl
      have HB := Lib.hid (view_below HQ.out.2.2 (lv1 m t0 page / 1024) (page / 512 % 512) hlt (by omega))
      rw [show en m (lv1 m t0 page / 1024) (page / 512 % 512) = lv0 m t0 page from rfl] at HB
      clear q0
      generalize hl1 : lv1 m t0 page / 1024 = t1 at *
      by_cases hz0 : lv0 m t0 page = 0
      · rw [hz0] at HB
        have hr : dnP m t0 page = (0, 1) := by unfold dnP; rw [if_neg hz, if_pos hz0]
        have HR2 := Lib.hid hr
        clear hr
        go_wp2_with fail
        refine HB.out.mono ?_; rintro e w3 ⟨rfl, hS3⟩
        have H3 := Lib.hid (HQ.out.1.trans hS3)
        clear hS3 HB HQ
        go_wp2
        go_ret2
        rw [HR2.out]
        exact ⟨rfl, H3.out⟩
      · have hne : (((lv0 m t0 page : Nat) : Int) != 0) = true := by simp; omega
        rw [hne] at HB
        go_wp2_with fail
        refine HB.out.mono ?_; rintro e w3 ⟨rfl, hS3⟩
        have H3 := Lib.hid (And.intro (HQ.out.1.trans hS3) (HQ.out.2.1.trans hS3.upd))
        clear hS3 HB HQ hne
        go_wp2
        exact ⟨⟨2, lv0 m t0 page / 1024, by omega, rfl, rfl, fun h => by omega, fun _ => hz, fun h => by omega, fun _ => ⟨hz0, rfl⟩, hd.h2 hz hz0, H3.out⟩, by simp [intOf]⟩
    · have hz := HE.out.1 (by omega)
      obtain ⟨hz0, htN⟩ := HE.out.2.2 rfl
      have hr : dnP m t0 page = (tN, 0) := by unfold dnP; rw [if_neg hz, if_neg hz0, htN]
      have HR2 := Lib.hid hr
      clear q0 q1 q3 hr htN
      go_wp2
      go_ret2
      rw [HR2.out]
      exact ⟨rfl, HQ.out.1⟩
theorem sp_told (hM : MemAt ramK own c w rp 0 n m) (hc0 : w.cell? ⟨sp, 0, none⟩ = some (.pointer (some ⟨rp, 0, none⟩))) (lsp : sp < w.heap.size) (pg : Int) (e : Nat) (he : e < 18446744073709551616) :
    Calls Try.prog 103 #[.pointer (some ⟨sp, 0, none⟩), .int .u64 pg, .int .u64 (e : Int)] w fun e' w' => e' = .returned (.agg #[.int .u64 pg, .int .i64 ((e / 1024 : Nat) : Int), .int .i64 ((e &&& 14 : Nat) : Int)]) ∧ Step (fun _ => False) own w own w' := by
  have hst := step_alloc own w (.cells #[.int .u64 0, .int .i64 0, .int .i64 0] 85)
  have hB : Blk (w.alloc (.cells #[.int .u64 0, .int .i64 0, .int .i64 0] 85)) w.heap.size 85 #[.int .u64 0, .int .i64 0, .int .i64 0] := Blk.new w _ _
  have HF := Lib.hid (view_frame (hM.step hst (fun h => h)) (e / 1024) (by omega))
  have H1 := Lib.hid (And.intro hst hB)
  have h14 : bits .and .u64 (e : Int) 14 = ((e &&& 14 : Nat) : Int) := by rw [show (14 : Int) = ((14 : Nat) : Int) from rfl, u64_and_nat e 14 he (by decide)]
  have hl14 : (e &&& 14) ≤ 14 := Nat.and_le_right
  have hsh : ((e : Int) / 2 ^ 10) = ((e / 1024 : Nat) : Int) := by rw [show (2 : Int) ^ 10 = 1024 from rfl]; omega
  have hsh2 : ((e : Int) / 1024) = ((e / 1024 : Nat) : Int) := by omega
  have HSH := Lib.hid (And.intro hsh (And.intro hsh2 h14))
  clear hM hst hB hsh hsh2 h14
  go_enter Try.func103, Try.ntmps103
  go_wp2_with fail
  (try rw [HSH.out.1])
  (try rw [HSH.out.2.1])
  refine HF.out.mono ?_; rintro e' w2 ⟨rfl, hS2⟩
  have hB2 := H1.out.2.upd hS2.upd (fun h => h)
  have H3 := Lib.hid (And.intro (H1.out.1.trans hS2) hB2)
  have hl := hB2.lt
  have z0 := hB2.frozen 0
  have z1 := hB2.frozen 1
  have z2 := hB2.frozen 2
  have y0 := hB2.cell 0
  have y1 := hB2.cell 1
  have y2 := hB2.cell 2
  simp only [List.getElem?_toArray, List.getElem?_cons_zero, List.getElem?_cons_succ] at y0 y1 y2
  have hvb : w.heap.size ≤ w.heap.size := Nat.le_refl _
  clear hS2 HF hB2 H1
  generalize hvv : w.heap.size = vb at *
  have HV := Lib.hid hvv
  clear hvv
  have hb14 : IntKind.i64.wrap ((e &&& 14 : Nat) : Int) = ((e &&& 14 : Nat) : Int) := IntWalk.i64_in _ (by omega)
  have h14 := HSH.out.2.2
  go_wp2
  have hBB := ((H3.out.2.set_ 0 (.int .u64 pg)).set_ 1 (.int .i64 ((e : Int) / 1024))).set_ 2 (.int .i64 ((e &&& 14 : Nat) : Int))
  refine bodyPost_ret (results_cell_row rfl _ _ vb 85 #[.int .u64 pg, .int .i64 ((e : Int) / 1024), .int .i64 ((e &&& 14 : Nat) : Int)] (0, 0) _ rfl hBB Try.underlying85 rfl (by kernel_rfl)) rfl ?_
  refine ⟨by rw [HSH.out.2.1], ⟨((H3.out.1.upd.setCell (p := ⟨vb, 0, none⟩) (.inr (by show w.heap.size ≤ vb; rw [HV.out]; omega)) _).setCell (p := ⟨vb, 1, none⟩) (.inr (by show w.heap.size ≤ vb; rw [HV.out]; omega)) _).setCell (p := ⟨vb, 2, none⟩) (.inr (by show w.heap.size ≤ vb; rw [HV.out]; omega)) _, fun _ _ => rfl⟩⟩
/-- what Find tells -/
def fndP (m : Nat → Int) (t0 page : Nat) : Int × Int × Int × Bool :=
  if (dnP m t0 page).2 = 0 ∧ en m (dnP m t0 page).1 (page % 512) ≠ 0 then ((page : Int), ((en m (dnP m t0 page).1 (page % 512) / 1024 : Nat) : Int), ((en m (dnP m t0 page).1 (page % 512) &&& 14 : Nat) : Int), true) else (0, 0, 0, false)
theorem dn_lt {n : Nat} {m : Nat → Int} {t0 page : Nat} (hd : DnOk n m t0 page) (h : (dnP m t0 page).2 = 0) : (dnP m t0 page).1 < n := by
  unfold dnP at h ⊢
  split at h
  · cases h
  · split at h
    · cases h
    · rename_i h1 h2
      rw [if_neg h1, if_neg h2]
      exact hd.h2 h1 h2
set_option maxHeartbeats 1000000 in
theorem sp_Find (hM : MemAt ramK own c w rp 0 n m) (hS : SpAt own w sp rp pp vmid ((t0 : Int) :: ts)) (hd : DnOk n m t0 page) (hp : page < 134217728) :
    Calls Try.prog 53 #[.pointer (some ⟨sp, 0, none⟩), .int .u64 (page : Int)] w fun e w' => e = .returned (.tuple #[.agg #[.int .u64 (fndP m t0 page).1, .int .i64 (fndP m t0 page).2.1, .int .i64 (fndP m t0 page).2.2.1], .bool (fndP m t0 page).2.2.2]) ∧ Step (fun _ => False) own w own w' := by
  have hst := step_alloc own w (.cells #[.int .u64 0, .int .i64 0, .int .i64 0] 85)
  have hB : Blk (w.alloc (.cells #[.int .u64 0, .int .i64 0, .int .i64 0] 85)) w.heap.size 85 #[.int .u64 0, .int .i64 0, .int .i64 0] := Blk.new w _ _
  have hM1 := hM.step hst (fun h => h)
  have hS1 := hS.step hst (fun h => h) (fun h => h)
  have HD := Lib.hid (sp_down hM1 hS1 hd hp)
  have H1 := Lib.hid (And.intro hst (And.intro hB (And.intro hM1 hS1)))
  have hpc : decide ((134217728 : Int) ≤ (page : Int)) = false := by simp; omega
  have h511 : bits .and .u64 (page : Int) 511 = ((page % 512 : Nat) : Int) := and511 page (by omega)
  have H511 := Lib.hid h511
  have hcc : page % 512 < 512 := Nat.mod_lt _ (by omega)
  clear hst hB hM1 hS1 hM hS h511 hp
  go_enter Try.func53, Try.ntmps53
  go_wp2_with fail
  refine HD.out.mono ?_; rintro e w2 ⟨rfl, hS2⟩
  have hB2 := H1.out.2.1.upd hS2.upd (fun h => h)
  have hM2 := H1.out.2.2.1.step hS2 (fun h => h)
  have hSp2 := H1.out.2.2.2.step hS2 (fun h => h) (fun h => h)
  obtain ⟨g, cap, s0, _, _, _, _, lsp, _⟩ := hSp2.cells
  have hl := hB2.lt
  have z0 := hB2.frozen 0
  have z1 := hB2.frozen 1
  have z2 := hB2.frozen 2
  have y0 := hB2.cell 0
  have y1 := hB2.cell 1
  have y2 := hB2.cell 2
  simp only [List.getElem?_toArray, List.getElem?_cons_zero, List.getElem?_cons_succ] at y0 y1 y2
  have H3 := Lib.hid (And.intro (H1.out.1.trans hS2) (And.intro hB2 (And.intro hM2 hSp2)))
  clear hS2 HD hB2 hM2 hSp2 H1
  generalize hvv : w.heap.size = vb at *
  have hlt := dn_lt hd
  by_cases hw : (dnP m t0 page).2 = 0
  · have hlt' := hlt hw
    have HE := Lib.hid (view_entry H3.out.2.2.1 (dnP m t0 page).1 (page % 512) hlt' hcc)
    have hF : fndP m t0 page = if en m (dnP m t0 page).1 (page % 512) ≠ 0 then ((page : Int), ((en m (dnP m t0 page).1 (page % 512) / 1024 : Nat) : Int), ((en m (dnP m t0 page).1 (page % 512) &&& 14 : Nat) : Int), true) else (0, 0, 0, false) := by
      unfold fndP; simp [hw]
    have HF := Lib.hid hF
    have hen := (num_en H3.out.2.2.1.bd (dnP m t0 page).1 (page % 512)).2
    rw [hw]
    clear hw hlt hF
    generalize en m (dnP m t0 page).1 (page % 512) = e at *
    generalize (dnP m t0 page).1 = tb at *
    go_wp2_with fail
    (try rw [H511.out])
    refine HE.out.mono ?_; rintro e' w4 ⟨rfl, hS4⟩
    have hB4 := H3.out.2.1.upd hS4.upd (fun h => h)
    have hM4 := H3.out.2.2.1.step hS4 (fun h => h)
    have hSp4 := H3.out.2.2.2.step hS4 (fun h => h) (fun h => h)
    obtain ⟨g4, cap4, x0, _, _, _, _, lsp4, _⟩ := hSp4.cells
    clear s0 lsp hl z0 z1 z2 y0 y1 y2
    have hl := hB4.lt
    have z0 := hB4.frozen 0
    have z1 := hB4.frozen 1
    have z2 := hB4.frozen 2
    have y0 := hB4.cell 0
    have y1 := hB4.cell 1
    have y2 := hB4.cell 2
    simp only [List.getElem?_toArray, List.getElem?_cons_zero, List.getElem?_cons_succ] at y0 y1 y2
    have HT := Lib.hid (sp_told hM4 x0 lsp4 (page : Int) e hen)
    have H5 := Lib.hid (And.intro (H3.out.1.trans hS4) hB4)
    clear hS4 hB4 hM4 hSp4 H3 HE
    by_cases hz : e = 0
    · have HF2 := Lib.hid (HF.out.trans (if_neg (by simpa using hz)))
      subst hz
      clear HF HT
      go_wp2
      have hBB := ((H5.out.2.set_ 0 (.int .u64 0)).set_ 1 (.int .i64 0)).set_ 2 (.int .i64 0)
      refine bodyPost_ret (results_cell_tmp_row rfl _ _ vb 85 #[.int .u64 0, .int .i64 0, .int .i64 0] _ rfl hBB Try.underlying85 rfl (by kernel_rfl)) rfl ?_
      rw [HF2.out]
      exact ⟨rfl, ⟨((H5.out.1.upd.setCell (p := ⟨vb, 0, none⟩) (.inr (by show w.heap.size ≤ vb; omega)) _).setCell (p := ⟨vb, 1, none⟩) (.inr (by show w.heap.size ≤ vb; omega)) _).setCell (p := ⟨vb, 2, none⟩) (.inr (by show w.heap.size ≤ vb; omega)) _, fun _ _ => rfl⟩⟩
    · have HF2 := Lib.hid (HF.out.trans (if_pos hz))
      have hz' : ((e : Int) == 0) = false := by simp; omega
      clear HF
      go_wp2_with fail
      refine HT.out.mono ?_; rintro e' w6 ⟨rfl, hS6⟩
      have hB6 := H5.out.2.upd hS6.upd (fun h => h)
      have H6 := Lib.hid (And.intro (H5.out.1.trans hS6) hB6)
      clear hl z0 z1 z2 y0 y1 y2
      have hl := hB6.lt
      have z0 := hB6.frozen 0
      have z1 := hB6.frozen 1
      have z2 := hB6.frozen 2
      have y0 := hB6.cell 0
      have y1 := hB6.cell 1
      have y2 := hB6.cell 2
      simp only [List.getElem?_toArray, List.getElem?_cons_zero, List.getElem?_cons_succ] at y0 y1 y2
      clear hS6 hB6 HT H5
      obtain ⟨fr, hfr⟩ : ∃ fr, e / 1024 = fr := ⟨_, rfl⟩
      obtain ⟨pm, hpm⟩ : ∃ pm, e &&& 14 = pm := ⟨_, rfl⟩
      rw [hfr, hpm]
      rw [hfr, hpm] at HF2
      clear hfr hpm
      go_wp2
      have hBB := ((H6.out.2.set_ 0 (.int .u64 (page : Int))).set_ 1 (.int .i64 (fr : Int))).set_ 2 (.int .i64 (pm : Int))
      refine bodyPost_ret (results_cell_tmp_row rfl _ _ vb 85 #[.int .u64 (page : Int), .int .i64 (fr : Int), .int .i64 (pm : Int)] _ rfl hBB Try.underlying85 rfl (by kernel_rfl)) rfl ?_
      rw [HF2.out]
      exact ⟨rfl, ⟨((H6.out.1.upd.setCell (p := ⟨vb, 0, none⟩) (.inr (by show w.heap.size ≤ vb; omega)) _).setCell (p := ⟨vb, 1, none⟩) (.inr (by show w.heap.size ≤ vb; omega)) _).setCell (p := ⟨vb, 2, none⟩) (.inr (by show w.heap.size ≤ vb; omega)) _, fun _ _ => rfl⟩⟩
  · have HF2 := Lib.hid (show fndP m t0 page = (0, 0, 0, false) from by unfold fndP; rw [if_neg (fun h => hw h.1)])
    have hwp : (0 : Int) < (((dnP m t0 page).2 : Nat) : Int) := by omega
    clear hw hlt
    generalize (dnP m t0 page).2 = wn at *
    generalize (dnP m t0 page).1 = tb at *
    go_wp2
    have hBB := ((H3.out.2.1.set_ 0 (.int .u64 0)).set_ 1 (.int .i64 0)).set_ 2 (.int .i64 0)
    refine bodyPost_ret (results_cell_tmp_row rfl _ _ vb 85 #[.int .u64 0, .int .i64 0, .int .i64 0] _ rfl hBB Try.underlying85 rfl (by kernel_rfl)) rfl ?_
    rw [HF2.out]
    exact ⟨rfl, ⟨((H3.out.1.upd.setCell (p := ⟨vb, 0, none⟩) (.inr (by show w.heap.size ≤ vb; omega)) _).setCell (p := ⟨vb, 1, none⟩) (.inr (by show w.heap.size ≤ vb; omega)) _).setCell (p := ⟨vb, 2, none⟩) (.inr (by show w.heap.size ≤ vb; omega)) _, fun _ _ => rfl⟩⟩
end
end Go.Proofs.Ytpodeclkgcgpgaa
