import Derived.Test.YtjhibbhinbdciaaQu4
/- A virtqueue: Next. -/
namespace Go.Proofs.Ytjhibbhinbdciaa
set_option linter.unusedVariables false
set_option linter.unusedSimpArgs false
open Go.RowKit
set_option maxRecDepth 100000
/-- what Next comes to -/
structure Nx where
  hd : Int
  r : List Sg
  w : List Sg
  good : Bool
  err : Int
  q : Qu
def nxQ (base n : Nat) (m : Nat → Int) (q : Qu) : Nx :=
  if usQ q = 0 then
    if (nextV base n m q).2.1 = true then
      if (chainQ base n m (nextQ base n m q) (nextQ base n m q).sz (nextV base n m q).1 false [] []).2 = 0 then
        ⟨(nextV base n m q).1, (chainQ base n m (nextQ base n m q) (nextQ base n m q).sz (nextV base n m q).1 false [] []).1.1, (chainQ base n m (nextQ base n m q) (nextQ base n m q).sz (nextV base n m q).1 false [] []).1.2, true, 0, nextQ base n m q⟩
      else ⟨0, [], [], false, (chainQ base n m (nextQ base n m q) (nextQ base n m q).sz (nextV base n m q).1 false [] []).2, { nextQ base n m q with de := true }⟩
    else if (nextV base n m q).2.2 = 0 then ⟨0, [], [], false, 0, q⟩ else ⟨0, [], [], false, (nextV base n m q).2.2, { q with de := true }⟩
  else ⟨0, [], [], false, usQ q, q⟩
section
variable {own own' : Nat → Nat} {c cm p mp base n : Nat} {w w' : World} {q : Qu} {m : Nat → Int}
theorem usQ_zero (h : usQ q = 0) : q.rd = true ∧ q.de = false := by
  unfold usQ at h
  cases hr : q.rd <;> cases hd : q.de <;> simp [hr, hd] at h ⊢
theorem nextQ_ok (hok : QuOk q) : QuOk (nextQ base n m q) := by
  unfold nextQ
  split
  · exact ⟨hok.sz, hok.ds, hok.av, hok.us, by show (q.tk + 1) % 65536 < 65536; omega, hok.gv⟩
  · exact hok
theorem nextQ_rd : (nextQ base n m q).rd = q.rd := by unfold nextQ; split <;> rfl
/-- a result that is a variable of several cells, and two more -/
theorem results_cell_tmp2_row {P : Program} {fn : Func} {p u v : Tmp} {ty : TypeId} (h : fn.results = #[.cell p ty, .tmp u, .tmp v]) (tmps : Array Value) (w : World) (g : Nat) (t : TypeId) (cs : Array Value) (d : TypeDesc)
    (hp : tmps.getD p undef = .pointer (some ⟨g, 0, none⟩)) (hg : Blk w g t cs)
    (hu : P.underlying ty = some d) (hd : (match d with | .struct _ | .array _ _ => true | _ => false) = true) (hi : (P.info? ty).map (·.size) = some cs.size) :
    (results fn tmps).run P w = .ok (.tuple #[.agg cs, tmps.getD u undef, tmps.getD v undef]) w := by
  have hp' : tmps[p]?.getD undef = .pointer (some ⟨g, 0, none⟩) := by simpa using hp
  simp [results, h, hp', asAddr, run_loadVar_row w g t ty cs (0, 0) d hg hu hd hi, Result.andThen]
set_option maxHeartbeats 8000000 in
theorem q_Next (h : QAt own c w p q) (hM : MemAt ramK own cm w mp base n m) (hcm : cm ≠ c) (hok : QuOk q) (d : Nat) (hdc : d ≠ c) :
    Calls Try.prog 16 #[.pointer (some ⟨p, 0, none⟩), memV mp] w fun e w' =>
      ∃ own' vR vW, e = .returned (.tuple #[.agg #[.int .i64 (nxQ base n m q).hd, vR, vW], .bool (nxQ base n m q).good, .int .i64 (nxQ base n m q).err]) ∧ Step (· = c) own w own' w' ∧ QAt own' c w' p (nxQ base n m q).q ∧
        Rw 44 2 own' d w' vR (nxQ base n m q).r.length (segsC (nxQ base n m q).r) ∧ Rw 44 2 own' d w' vW (nxQ base n m q).w.length (segsC (nxQ base n m q).w) := by
  obtain ⟨k, hk⟩ : ∃ k, k = c + d + 1 := ⟨_, rfl⟩
  have HK := Lib.hid (And.intro hcm (And.intro hdc (show k ≠ c ∧ k ≠ d by omega)))
  have H0 := Lib.hid (And.intro h (And.intro hM hok))
  obtain ⟨U, hU⟩ : ∃ u, usQ q = u := ⟨_, rfl⟩
  have HUs := Lib.hid hU
  have hus := q_usable h
  clear h hM hcm hdc hk hok
  go_enter Try.func16, Try.ntmps16
  go_wp2_with ((with_reducible show wpList _ _ _ ((⟨some 4, _, _, _, _, _⟩ : Oper) :: _) _ _); refine wpList_allocCh rfl rfl (fun pc w1 hgp hlp hbp hUp => ?_))
  have hst : Step (fun _ => False) own w (ext own w k) w1 := ⟨hUp, fun b hb => ext_old _ _ _ hb⟩
  have hpk : ext own w k pc = k := ext_new _ _ _ hgp
  obtain ⟨own1, ho1⟩ : ∃ o, ext own w k = o := ⟨_, rfl⟩
  rw [ho1] at hst hpk
  have h1 := H0.out.1.step hst (fun h => h)
  have hM1 := H0.out.2.1.step hst (fun h => h)
  have hu1 := q_usable h1
  rw [hU] at hu1
  have HU := Lib.hid hu1
  have H1 := Lib.hid (And.intro hst (And.intro (And.intro hbp hpk) (And.intro h1 (And.intro hM1 hgp))))
  clear hst hpk ho1 h1 hM1 hu1 hbp hUp hgp hlp hU hus
  ((with_reducible refine HU.out.mono ?_); rintro e wz ⟨rfl, rfl⟩)
  clear HU
  by_cases hu0 : U = 0
  · obtain ⟨hrd, hde⟩ := usQ_zero (HUs.out.trans hu0)
    have hN := q_next H1.out.2.2.1 H1.out.2.2.2.1 H0.out.2.2 hrd
    obtain ⟨v1, v2, v3, hV⟩ : ∃ v1 v2 v3, nextV base n m q = (v1, v2, v3) := ⟨_, _, _, rfl⟩
    have hok1 := nextQ_ok (base := base) (n := n) (m := m) H0.out.2.2
    have hrd1 : (nextQ base n m q).rd = true := nextQ_rd.trans hrd
    obtain ⟨q1, hq1⟩ : ∃ q1, nextQ base n m q = q1 := ⟨_, rfl⟩
    have hnx : nxQ base n m q = if v2 = true then
      if (chainQ base n m q1 q1.sz v1 false [] []).2 = 0 then ⟨v1, (chainQ base n m q1 q1.sz v1 false [] []).1.1, (chainQ base n m q1 q1.sz v1 false [] []).1.2, true, 0, q1⟩
      else ⟨0, [], [], false, (chainQ base n m q1 q1.sz v1 false [] []).2, { q1 with de := true }⟩
    else if v3 = 0 then ⟨0, [], [], false, 0, q⟩ else ⟨0, [], [], false, v3, { q with de := true }⟩ := by
      unfold nxQ
      rw [HUs.out, if_pos hu0, hV, hq1]
    have hv2 : v2 = true → v3 = 0 ∧ 0 ≤ v1 ∧ v1 < 65536 := by
      intro h2
      have hbd := rd_bd H0.out.2.1.bd base n (headA q : Int) 2 (.inl rfl)
      rw [show (256 : Int) ^ (2 : Int).toNat = 65536 by decide] at hbd
      have hV' := hV
      unfold nextV at hV'
      split at hV'
      · cases hV'; cases h2
      · split at hV'
        · cases hV'; cases h2
        · split at hV'
          · cases hV'; cases h2
          · split at hV'
            · cases hV'; cases h2
            · cases hV'; exact ⟨rfl, hbd⟩
    have hqf : v2 = false → q1 = q := by
      intro h2
      rw [← hq1]
      unfold nextQ
      rw [hV, if_neg (show ¬ (v2 = true) by rw [h2]; decide)]
    rw [hV, hq1] at hN
    rw [hq1] at hok1 hrd1
    have HN := Lib.hid hN
    have HX := Lib.hid (And.intro hnx (And.intro hv2 (And.intro hqf (And.intro hok1 hrd1))))
    have hne0 : (U != 0) = false := by simp [hu0]
    clear hN hV hok1 hrd1 hq1 hnx hv2 hqf hrd hde hu0
    go_wp2_with fail
    ((with_reducible refine HN.out.mono ?_); rintro e w2 ⟨rfl, hS2, hQ2⟩)
    have hpc2 := hS2.blk H1.out.2.1.1 H1.out.2.1.2 (fun e => HK.out.2.2.1 e)
    have hM2 := H1.out.2.2.2.1.step hS2 HK.out.1
    have H2 := Lib.hid (And.intro hS2 (And.intro hQ2 (And.intro hpc2 hM2)))
    clear hS2 hQ2 hpc2 hM2 HN
    go_upto_if 25 with ((with_reducible show wpList _ _ _ ((⟨some 11, _, _, _, _, _⟩ : Oper) :: _) _ _); refine wpList_allocCh rfl rfl (fun qb w3 hg3 hl3 hb3 hU3 => ?_))
    have hs3 : Step (fun _ => False) own1 w2 (ext own1 w2 k) w3 := ⟨hU3, fun b hb => ext_old _ _ _ hb⟩
    have hqk : ext own1 w2 k qb = k := ext_new _ _ _ hg3
    have hpq : pc ≠ qb := by have := H2.out.2.2.1.1.lt; omega
    obtain ⟨own2, ho2⟩ : ∃ o, ext own1 w2 k = o := ⟨_, rfl⟩
    rw [ho2] at hs3 hqk
    have h3 := And.intro ((H1.out.1.mono (C' := (· = c)) (fun _ h => h.elim)).trans (H2.out.1.trans (hs3.mono (C' := (· = c)) (fun _ h => h.elim)))) (And.intro (hs3.blk H2.out.2.2.1.1 H2.out.2.2.1.2 (fun h => h)) (And.intro (And.intro hb3 hqk) (And.intro (H2.out.2.1.step hs3 (fun h => h)) (And.intro (H2.out.2.2.2.step hs3 (fun h => h)) (And.intro H1.out.2.2.2.2 (And.intro hpq (Nat.le_trans H1.out.2.2.2.2 (Nat.le_of_lt (Nat.lt_of_lt_of_le H2.out.2.2.1.1.lt hg3)))))))))
    have H3 := Lib.hid h3
    clear hs3 hqk ho2 h3 hg3 hl3 hb3 hU3 H1 H2 hpq
    go_cut [10] (fun s10 wx => ∃ E : Int, s10 = .int .i64 E ∧ Hid (∃ own3 hh R W vR vW, Step (· = c) own w own3 wx ∧ (Blk wx pc 40 #[.int .i64 0, .slice none 0 0, .slice none 0 0] ∧ own3 pc = k) ∧ (Blk wx qb 40 #[.int .i64 hh, vR, vW] ∧ own3 qb = k) ∧ QAt own3 c wx p q1 ∧
      Rw 44 2 own3 d wx vR R.length (segsC R) ∧ Rw 44 2 own3 d wx vW W.length (segsC W) ∧ nxQ base n m q = if E = 0 then ⟨hh, R, W, v2, 0, q1⟩ else ⟨0, [], [], false, E, { q1 with de := true }⟩))
    case first =>
      cases v2 with
      | false =>
        have hnx := HX.out.1
        have hqe := HX.out.2.2.1 rfl
        have HE := Lib.hid (show nxQ base n m q = if v3 = 0 then ⟨0, [], [], false, 0, q1⟩ else ⟨0, [], [], false, v3, { q1 with de := true }⟩ by rw [hnx, hqe]; rfl)
        clear hnx hqe
        go_wp2
        go_meet
        exact ⟨v3, rfl, own2, 0, [], [], _, _, H3.out.1, H3.out.2.1, H3.out.2.2.1, H3.out.2.2.2.1, Rw.nil _ _ _ _ _, Rw.nil _ _ _ _ _, HE.out⟩
      | true =>
        obtain ⟨h30, hv0, hv1⟩ := HX.out.2.1 rfl
        obtain ⟨hh, rfl⟩ := Int.eq_ofNat_of_zero_le hv0
        have HCn := Lib.hid (q_chain H3.out.2.2.2.1 H3.out.2.2.2.2.1 HX.out.2.2.2.1 HX.out.2.2.2.2 hh (by omega) d)
        have hnx := HX.out.1
        rw [if_pos rfl] at hnx
        obtain ⟨RS, hRS⟩ : ∃ r, chainQ base n m q1 q1.sz (hh : Int) false [] [] = r := ⟨_, rfl⟩
        rw [hRS] at hnx HCn
        have HNx := Lib.hid hnx
        clear hnx hRS h30 hv0
        go_wp2_with fail
        ((with_reducible refine HCn.out.mono ?_); rintro e w4 ⟨own4, vR, vW, rfl, hS4, hR4, hW4⟩)
        obtain ⟨AR, cR, rfl, _, _⟩ := hR4.form
        obtain ⟨AW, cW, rfl, _, _⟩ := hW4.form
        have hqb4 := hS4.blk H3.out.2.2.1.1 H3.out.2.2.1.2 (fun h => h)
        have hpc4 := hS4.blk H3.out.2.1.1 H3.out.2.1.2 (fun h => h)
        have hQ4 := H3.out.2.2.2.1.step hS4 (fun h => h)
        have H4 := Lib.hid (And.intro (H3.out.1.trans (hS4.mono (C' := (· = c)) (fun _ h => h.elim))) (And.intro hqb4 (And.intro hpc4 (And.intro hQ4 (And.intro hR4 hW4)))))
        clear hS4 hR4 hW4 hqb4 hpc4 hQ4 HCn
        go_wp2_with ((with_reducible show wpList _ _ _ ((⟨none, _, _, _, _, _⟩ : Oper) :: _) _ _); refine wpList_storeR rfl (.tmp 11) (.tmp 31) rfl qb #[.int .i64 (hh : Int), .slice AR RS.1.1.length cR, .slice AW RS.1.2.length cW] rfl rfl _ H4.out.2.1.1 (by kernel_rfl) rfl (by simp [Value.oneCell']) (fun w5 hb5 hU5 => ?_))
        go_meet
        have hs5 : Step (· = k) own4 w4 own4 w5 := ⟨hU5.mono (fun i _ e => e ▸ H4.out.2.1.2), fun _ _ => rfl⟩
        have hsz : w.heap.size ≤ qb := H3.out.2.2.2.2.2.2.2
        refine ⟨RS.2, rfl, own4, (hh : Int), RS.1.1, RS.1.2, _, _, ⟨H4.out.1.upd.trans' hU5 (fun i hi e => by omega), H4.out.1.old⟩, ⟨H4.out.2.2.1.1.upd hU5 (fun e => H3.out.2.2.2.2.2.2.1 e), H4.out.2.2.1.2⟩, ⟨hb5, H4.out.2.1.2⟩, H4.out.2.2.2.1.step hs5 (fun e => HK.out.2.2.1 e.symm), H4.out.2.2.2.2.1.step hs5 (fun e => HK.out.2.2.2 e.symm), H4.out.2.2.2.2.2.step hs5 (fun e => HK.out.2.2.2 e.symm), ?_⟩
        rw [HNx.out]
    case rest =>
      obtain ⟨E, rfl, HC⟩ := hcut
      obtain ⟨own3, hh, R, W, vR, vW, hS, hpc, hqb, hQ, hR, hW, hnx⟩ := HC.out
      obtain ⟨AR, cR, rfl, _, _⟩ := hR.form
      obtain ⟨AW, cW, rfl, _, _⟩ := hW.form
      have hgp := H3.out.2.2.2.2.2.1
      have c1 := hQ.cells.2.1
      have z1 := hQ.frz.2.1
      have HI := Lib.hid (And.intro hS (And.intro hpc (And.intro hqb (And.intro hQ (And.intro hR hW)))))
      clear HC hS hpc hqb hQ hR hW H3 HX
      by_cases hE : E = 0
      · rw [if_pos hE] at hnx
        have HN := Lib.hid hnx
        have hne : (E != 0) = false := by simp [hE]
        clear hnx hE
        go_wp2_with (first | ((with_reducible show wpList _ _ _ ((⟨some 40, _, _, _, _, _⟩ : Oper) :: _) _ _); refine wpList_loadR rfl (.tmp 11) rfl qb [.int .i64 hh, .slice AR R.length cR, .slice AW W.length cW] _ rfl HI.out.2.2.1.1 Try.underlying40 rfl (by kernel_rfl) ?_) | ((with_reducible show wpList _ _ _ ((⟨none, _, _, _, _, _⟩ : Oper) :: _) _ _); refine wpList_storeR rfl (.tmp 4) (.tmp 40) rfl pc #[.int .i64 hh, .slice AR R.length cR, .slice AW W.length cW] rfl rfl _ HI.out.2.1.1 (by kernel_rfl) rfl (by simp [Value.oneCell']) (fun wF hbF hUF => ?_)))
        refine bodyPost_ret (results_cell_tmp2_row rfl _ _ pc 40 #[.int .i64 hh, .slice AR R.length cR, .slice AW W.length cW] _ rfl hbF Try.underlying40 rfl (by kernel_rfl)) rfl ?_
        rw [HN.out]
        have hsF : Step (· = k) own3 _ own3 wF := ⟨hUF.mono (fun i _ e => e ▸ HI.out.2.1.2), fun _ _ => rfl⟩
        exact ⟨own3, _, _, rfl, ⟨HI.out.1.upd.trans' hUF (fun i hi e => by omega), HI.out.1.old⟩, HI.out.2.2.2.1.step hsF (fun e => HK.out.2.2.1 e.symm), HI.out.2.2.2.2.1.step hsF (fun e => HK.out.2.2.2 e.symm), HI.out.2.2.2.2.2.step hsF (fun e => HK.out.2.2.2 e.symm)⟩
      · rw [if_neg hE] at hnx
        have HN := Lib.hid hnx
        have hne : (E != 0) = true := by simpa using hE
        have hput := HI.out.2.2.2.1.putDe true
        have hpcD := (hput.2.blk HI.out.2.1.1 HI.out.2.1.2 (fun e => HK.out.2.2.1 e))
        have HD := Lib.hid (And.intro hput hpcD)
        clear hnx hE hput hpcD
        go_wp2_with ((with_reducible show wpList _ _ _ ((⟨none, _, _, _, _, _⟩ : Oper) :: _) _ _); refine wpList_storeR rfl (.tmp 4) (.tmp 38) rfl pc #[.int .i64 0, .slice none 0 0, .slice none 0 0] rfl rfl _ HD.out.2.1 (by kernel_rfl) rfl (by simp [Value.oneCell']) (fun wF hbF hUF => ?_))
        refine bodyPost_ret (results_cell_tmp2_row rfl _ _ pc 40 #[.int .i64 0, .slice none 0 0, .slice none 0 0] _ rfl hbF Try.underlying40 rfl (by kernel_rfl)) rfl ?_
        rw [HN.out]
        have hsF : Step (· = k) own3 _ own3 wF := ⟨hUF.mono (fun i _ e => e ▸ HI.out.2.1.2), fun _ _ => rfl⟩
        have hS' := HI.out.1.trans HD.out.1.2
        exact ⟨own3, _, _, rfl, ⟨hS'.upd.trans' hUF (fun i hi e => by omega), hS'.old⟩, HD.out.1.1.step hsF (fun e => HK.out.2.2.1 e.symm), Rw.nil _ _ _ _ _, Rw.nil _ _ _ _ _⟩
  · have hnx : nxQ base n m q = ⟨0, [], [], false, U, q⟩ := by unfold nxQ; rw [HUs.out, if_neg hu0]
    have hne : (U != 0) = true := by simpa using hu0
    have HN := Lib.hid hnx
    clear hnx hu0
    go_wp2_with ((with_reducible show wpList _ _ _ ((⟨none, _, _, _, _, _⟩ : Oper) :: _) _ _); refine wpList_storeR rfl (.tmp 4) (.tmp 16) rfl pc #[.int .i64 0, .slice none 0 0, .slice none 0 0] rfl rfl _ H1.out.2.1.1 (by kernel_rfl) rfl (by simp [Value.oneCell']) (fun wF hbF hUF => ?_))
    refine bodyPost_ret (results_cell_tmp2_row rfl _ _ pc 40 #[.int .i64 0, .slice none 0 0, .slice none 0 0] _ rfl hbF Try.underlying40 rfl (by kernel_rfl)) rfl ?_
    rw [HN.out]
    have hsF : Step (· = k) own1 wz own1 wF := ⟨hUF.mono (fun i _ e => e ▸ H1.out.2.1.2), fun _ _ => rfl⟩
    exact ⟨own1, _, _, rfl, ⟨(H1.out.1.upd.trans' hUF (fun i hi e => by have := H1.out.2.2.2.2; omega)).mono (fun _ _ h => h.elim), H1.out.1.old⟩, H1.out.2.2.1.step hsF (fun e => HK.out.2.2.1 e.symm), Rw.nil _ _ _ _ _, Rw.nil _ _ _ _ _⟩
end
end Go.Proofs.Ytjhibbhinbdciaa
