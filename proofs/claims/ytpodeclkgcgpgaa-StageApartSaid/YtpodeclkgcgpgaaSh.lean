import Derived.Test.YtpodeclkgcgpgaaSg
import Derived.Test.YtpodeclkgcgpgaaSm
/- A guest's space: Map, where frames are wanting; StageFull's facts. -/
namespace Go.Proofs.Ytpodeclkgcgpgaa
set_option linter.unusedVariables false
set_option linter.unusedSimpArgs false
open Go.RowKit
set_option maxRecDepth 100000

section
variable {own : Nat → Nat} {rp sp pp n : Nat} {res harts vmid : Int} {ts : List Int} {s : PSt} {w : World}
set_option maxHeartbeats 2000000 in
theorem sp_Map_full {t0 page fr : Nat} {p : Int} (h : GS own w sp rp pp vmid n res harts s ((t0 : Int) :: ts)) (hp : page < 134217728) (hfr : fr < n) (hpm : permOk p)
    (hd : DnOk n s.m t0 page) (hnf : (fndP s.m t0 page).2.2.2 = false) (hc : countP s.ow 0 < (dnP s.m t0 page).2) :
    Calls Try.prog 40 #[.pointer (some ⟨sp, 0, none⟩), .int .u64 (page : Int), .int .i64 (fr : Int), .int .i64 p] w fun e w' => e = .returned (.int .i64 10) ∧ Step (fun _ => False) own w own w' := by
  have hn := h.1.2.sizes.2.2
  obtain ⟨c0, _, lsp⟩ := h.2.c0
  have HFr := Lib.hid (ram_Frames h.1.2)
  have HGp := Lib.hid (st_goodPerm p hpm)
  have hF := sp_Find h.1.2 h.2 hd hp
  rw [hnf] at hF
  have HF := Lib.hid hF
  have hge : decide ((134217728 : Int) ≤ (page : Int)) = false := by simp; omega
  have hfr' : decide (n ≤ fr) = false := by simp; omega
  have hfr0 : decide ((fr : Int) < 0) = false := by simp
  have HPG := Lib.hid (And.intro hp (And.intro hd hc))
  have HG := Lib.hid h
  clear hF h hp hd hc hnf hpm hn hfr
  go_enter Try.func40, Try.ntmps40
  go_wp2_with fail
  refine HFr.out.mono ?_; rintro e w1 ⟨rfl, rfl⟩
  go_wp2_with fail
  refine (HGp.out _).mono ?_; rintro e w1 ⟨rfl, rfl⟩
  clear HFr HGp
  generalize (fndP s.m t0 page).1 = q1 at *
  generalize (fndP s.m t0 page).2.1 = q2 at *
  generalize (fndP s.m t0 page).2.2.1 = q3 at *
  go_wp2_with fail
  refine HF.out.mono ?_; rintro e w2 ⟨rfl, hS2⟩
  have hstA := hS2.trans (step_alloc own w2 (.cells #[.int .u64 q1, .int .i64 q2, .int .i64 q3] 85))
  have hG2 := HG.out.step hstA (by simp)
  have HD := Lib.hid (sp_down hG2.1.2 hG2.2 HPG.out.2.1 HPG.out.1)
  have H2 := Lib.hid (And.intro hstA hG2)
  clear hS2 hstA hG2 HF HG c0 lsp
  go_wp2_with fail
  refine HD.out.mono ?_; rintro e w3 ⟨rfl, hS3⟩
  have hG3 := H2.out.2.step hS3 (by simp)
  obtain ⟨x0, x1, xl⟩ := hG3.2.c0
  have HC := Lib.hid (pool_Count hG3.1.1 0)
  have H3 := Lib.hid (H2.out.1.trans hS3)
  clear hS3 hG3 H2 HD
  obtain ⟨cn, hcn⟩ : ∃ cn, countP s.ow 0 = cn := ⟨_, rfl⟩
  obtain ⟨wn, hwn⟩ : ∃ wn, (dnP s.m t0 page).2 = wn := ⟨_, rfl⟩
  rw [hcn] at HC
  have hle : decide (cn < wn) = true := by
    have := HPG.out.2.2
    rw [hcn, hwn] at this
    simpa using this
  have hle2 : cn < wn := by simpa using hle
  rw [hwn]
  go_wp2_with fail
  refine HC.out.mono ?_; rintro e wz ⟨rfl, rfl⟩
  clear HC hcn hwn
  go_wp2
  go_ret
  exact ⟨rfl, H3.out⟩
end
/-- StageFull: so many frames taken by guest 2 -/
def owF (j : Nat) : List Int := [-1, -1, -1, 1] ++ (List.replicate j 2 ++ List.replicate (12 - j) 0)
theorem owF_take (j : Nat) (hj : j < 12) : takeP (owF j) 2 = (((4 + j : Nat) : Int), 0, owF (j + 1)) := by
  have : ∀ j, j < 12 → takeP (owF j) 2 = (((4 + j : Nat) : Int), 0, owF (j + 1)) := by decide +kernel
  exact this j hj
theorem owF_count (j : Nat) (hj : j ≤ 12) : countP (owF j) 0 = 12 - j := by
  have : ∀ j, j < 13 → countP (owF j) 0 = 12 - j := by decide +kernel
  exact this j (by omega)
def sF (j : Nat) : PSt := ⟨owF j, s16.bt, s16.m, s16.cnt⟩
theorem takeF : takeP s16.ow 1 = (3, 0, owF 0) := by kernel_rfl
theorem s16_m : s16.m = fun _ => 0 := by
  show clrF (clrF (fun _ => 0) 1) 2 = _
  funext x; unfold clrF; split
  · rfl
  · split <;> rfl
theorem en_zero (t i : Nat) : en (fun _ => 0) t i = 0 := by
  unfold en
  rw [num_zero (fun _ _ _ => rfl)]; rfl
theorem sF_dn (j x : Nat) (hx : x < 134217728) : DnOk 16 (sF j).m 1 x ∧ dnP (sF j).m 1 x = (0, 2) ∧ (fndP (sF j).m 1 x).2.2.2 = false := by
  have e1 : lv1 (sF j).m 1 x = 0 := by show en s16.m 1 _ = 0; rw [s16_m]; exact en_zero _ _
  have ed : dnP (sF j).m 1 x = (0, 2) := by unfold dnP; rw [if_pos e1]
  refine ⟨⟨by decide, fun h => absurd e1 h, fun h => absurd e1 h⟩, ed, ?_⟩
  unfold fndP; rw [ed]; rfl
theorem sF_f1 (j : Nat) (hj : j < 11) : freeP (owF j) = some (4 + j) ∧ freeP ((owF j).set (4 + j) (-1)) = some (5 + j) ∧ countP (((owF j).set (4 + j) (-1)).set (5 + j) (-1)) 0 = 10 - j := by
  have : ∀ j, j < 11 → freeP (owF j) = some (4 + j) ∧ freeP ((owF j).set (4 + j) (-1)) = some (5 + j) ∧ countP (((owF j).set (4 + j) (-1)).set (5 + j) (-1)) 0 = 10 - j := by decide +kernel
  exact this j hj
theorem sF_z (j t i : Nat) : en (sF j).m t i = 0 := by show en s16.m t i = 0; rw [s16_m]; exact en_zero _ _
/-- the first table of a page, taken -/
def s1F (j x : Nat) : PSt := ⟨(owF j).set (4 + j) (-1), s16.bt, enS (clrF (sF j).m (4 + j)) 1 (x / 262144) ((((4 + j) * 1024 + 1 : Nat)) : Int), s16.cnt⟩
theorem sF_l1 (j x : Nat) (hj : j < 11) : lvS (sF j) [1] 1 (x / 262144) = (4 + j, s1F j x, [1, ((4 + j : Nat) : Int)]) := by
  unfold lvS
  rw [if_pos (sF_z _ _ _), show freeP (sF j).ow = some (4 + j) from (sF_f1 j hj).1]
  rfl
theorem s1F_z (j x i : Nat) (hx : x < 134217728) (hi : i < 512) : en (s1F j x).m (4 + j) i = 0 := by
  show (num (put _ (1 * 4096 + 8 * (x / 262144)) 8 _) ((4 + j) * 4096 + 8 * i) 8).toNat = 0
  rw [num_put_far _ _ _ _ _ _ (by omega), num_zero (fun y h1 h2 => by unfold clrF; rw [if_pos (by omega)])]; rfl
theorem sF_l2 (j x : Nat) (hx : x < 134217728) (hj : j < 11) : (bldP (sF j) [1] 1 x).1 = 5 + j ∧ (bldP (sF j) [1] 1 x).2.1.ow = ((owF j).set (4 + j) (-1)).set (5 + j) (-1) ∧ (bldP (sF j) [1] 1 x).2.2 = [1, ((4 + j : Nat) : Int), ((5 + j : Nat) : Int)] := by
  unfold bldP
  rw [sF_l1 j x hj]
  show (lvS (s1F j x) [1, ((4 + j : Nat) : Int)] (4 + j) (x / 512 % 512)).1 = 5 + j ∧ (lvS (s1F j x) [1, ((4 + j : Nat) : Int)] (4 + j) (x / 512 % 512)).2.1.ow = _ ∧ (lvS (s1F j x) [1, ((4 + j : Nat) : Int)] (4 + j) (x / 512 % 512)).2.2 = _
  unfold lvS
  rw [if_pos (s1F_z j x _ hx (Nat.mod_lt _ (by omega))), show freeP (s1F j x).ow = some (5 + j) from (sF_f1 j hj).2.1]
  exact ⟨rfl, rfl, rfl⟩
theorem sF_bl (j x : Nat) (hx : x < 134217728) (hj : j < 11) : BlOk 16 (sF j) [1] 1 x := by
  refine ⟨⟨by decide, by omega, fun h => absurd (sF_z _ _ _) h, fun _ => ⟨4 + j, (sF_f1 j hj).1⟩⟩, ?_⟩
  rw [sF_l1 j x hj]
  exact ⟨by show 4 + j < 16; omega, Nat.mod_lt _ (by omega), fun h => absurd (s1F_z j x _ hx (Nat.mod_lt _ (by omega))) h, fun _ => ⟨5 + j, (sF_f1 j hj).2.1⟩⟩
/-- how many are taken, read off the world -/
theorem sF_one {own own' : Nat → Nat} {w : World} {sp sp' rp pp : Nat} {j j' : Nat} (hj : j ≤ 12) (hj' : j' ≤ 12) (h : GS own w sp rp pp 1 16 1 1 (sF j) [1]) (h' : GS own' w sp' rp pp 1 16 1 1 (sF j') [1]) : j = j' := by
  obtain ⟨⟨⟨qo, qb, d, hP⟩, _⟩, _⟩ := h
  obtain ⟨⟨⟨qo', qb', d', hP'⟩, _⟩, _⟩ := h'
  have e1 : w.heap[pp]? = _ := hP.bp
  have e2 : w.heap[pp]? = _ := hP'.bp
  rw [e1] at e2
  have hq : qo = qo' := by
    simp [poolC] at e2
    exact e2.1
  subst hq
  have e3 : w.heap[qo]? = _ := hP.bo
  have e4 : w.heap[qo]? = _ := hP'.bo
  rw [e3] at e4
  have ho : owF j = owF j' := by
    simp at e4
    have key : ∀ (a b : List Int), a.map (Value.int .i64) = b.map (Value.int .i64) → a = b := by
      intro a
      induction a with
      | nil => intro b hb; cases b <;> simp_all
      | cons x a ih => intro b hb; cases b with
        | nil => simp at hb
        | cons y b => simp at hb; rw [hb.1, ih b hb.2]
    exact key _ _ e4
  have c1 := owF_count j hj
  have c2 := owF_count j' hj'
  rw [ho] at c1
  omega
noncomputable def jOf (sp rp pp : Nat) (w : World) : Nat := open Classical in if h : ∃ j, j ≤ 12 ∧ ∃ own, GS own w sp rp pp 1 16 1 1 (sF j) [1] then Classical.choose h else 0
theorem jOf_eq {own : Nat → Nat} {w : World} {sp rp pp j : Nat} (hj : j ≤ 12) (h : GS own w sp rp pp 1 16 1 1 (sF j) [1]) : jOf sp rp pp w = j := by
  have hex : ∃ j, j ≤ 12 ∧ ∃ own, GS own w sp rp pp 1 16 1 1 (sF j) [1] := ⟨j, hj, own, h⟩
  unfold jOf
  rw [dif_pos hex]
  obtain ⟨h1, own', h2⟩ := Classical.choose_spec hex
  exact sF_one h1 hj h2 h
end Go.Proofs.Ytpodeclkgcgpgaa
