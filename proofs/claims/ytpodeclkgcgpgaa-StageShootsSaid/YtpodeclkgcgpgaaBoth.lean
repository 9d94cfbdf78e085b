import Derived.Test.YtpodeclkgcgpgaaPref5
import Derived.Test.YtpodeclkgcgpgaaF9
/- Both pools side by side, over both memories. -/
namespace Go.Proofs.Ytpodeclkgcgpgaa
set_option linter.unusedVariables false
open Go.RowKit
set_option maxRecDepth 100000

theorem pr_Ack_out {own : Nat → Nat} {c pp rp n : Nat} {res : Int} {hn : Nat} {ow bt : List Int} {w : World} (h : PrAt own c w pp rp n res hn ow bt) (k : Int) (h63 : k ≠ 63) (hk : ¬ (0 ≤ k ∧ k < hn)) :
    Calls Try.prog 33 #[.pointer (some ⟨pp, 0, none⟩), .int .i64 k] w fun e w' => e = .returned (.int .i64 0) ∧ w = w' := by
  obtain ⟨qo, qw, vs, ls, hP, _⟩ := h
  have h2 := hP.c2
  have hne : (k != 63) = true := by simpa using h63
  have hcs : k < 0 ∨ (¬ k < 0 ∧ (hn : Int) ≤ k) := by omega
  clear hP h63 hk
  rcases hcs with h1 | ⟨h1, h3⟩
  all_goals
    go_enter Try.func33, Try.ntmps33
    go_wp2
    go_ret
    exact ⟨rfl, rfl⟩
theorem pr_New_bad {own : Nat → Nat} {cr rp n base : Nat} {m : Nat → Int} {w : World} (hR : MemAt refK own cr w rp base n m) (r h : Int) (hb : ¬ (0 ≤ r ∧ r ≤ n ∧ 1 ≤ h ∧ h ≤ 8)) :
    Calls Try.prog 30 #[.pointer (some ⟨rp, 0, none⟩), .int .i64 r, .int .i64 h] w fun e w' => e = .returned (.tuple #[.pointer none, .int .i64 1]) ∧ w = w' := by
  obtain ⟨q, fs, hIn, rfl⟩ := hR
  have hc1 : w.cell? ⟨rp, 1, none⟩ = some (.int .i64 (fs.length : Int)) := hIn.bp.cell 1
  have hn := hIn.hn
  clear hIn
  generalize fs.length = n at *
  have hcs : r < 0 ∨ (¬ r < 0 ∧ (n : Int) < r) ∨ (¬ r < 0 ∧ ¬ (n : Int) < r ∧ h < 1) ∨ (¬ r < 0 ∧ ¬ (n : Int) < r ∧ ¬ h < 1 ∧ 8 < h) := by omega
  clear hb
  rcases hcs with h1 | ⟨h1, h2⟩ | ⟨h1, h2, h3⟩ | ⟨h1, h2, h3, h4⟩
  all_goals
    go_enter Try.func30, Try.ntmps30
    go_wp2
    go_ret2
    exact ⟨rfl, rfl⟩
theorem pool_New_bad {own : Nat → Nat} {cr rp n base : Nat} {m : Nat → Int} {w : World} (hR : MemAt ramK own cr w rp base n m) (r h : Int) (hb : ¬ (0 ≤ r ∧ r ≤ n ∧ 1 ≤ h ∧ h ≤ 8)) :
    Calls Try.prog 19 #[.pointer (some ⟨rp, 0, none⟩), .int .i64 r, .int .i64 h] w fun e w' => e = .returned (.tuple #[.pointer none, .int .i64 1]) ∧ w = w' := by
  have HF := Lib.hid (ram_Frames hR)
  have hn := hR.sizes
  clear hR
  have hcs : r < 0 ∨ (¬ r < 0 ∧ (n : Int) < r) ∨ (¬ r < 0 ∧ ¬ (n : Int) < r ∧ h < 1) ∨ (¬ r < 0 ∧ ¬ (n : Int) < r ∧ ¬ h < 1 ∧ 8 < h) := by omega
  clear hb
  rcases hcs with h1 | ⟨h1, h2⟩ | ⟨h1, h2, h3⟩ | ⟨h1, h2, h3, h4⟩
  · go_enter Try.func19, Try.ntmps19
    go_wp2
    go_ret2
    exact ⟨rfl, rfl⟩
  all_goals
    go_enter Try.func19, Try.ntmps19
    go_wp2_with fail
    refine HF.out.mono ?_; rintro e w' ⟨rfl, rfl⟩
    go_wp2
    go_ret2
    exact ⟨rfl, rfl⟩

/-- both: the program's pool in the state s, the document's in the state t -/
def BS (w : World) (pp p1 pq p2 n r h : Nat) (own' : Nat → Nat) (wr : World) (s t : PSt) : Prop :=
  Step (fun x => x ≠ 0) (fun _ => 0) w own' wr ∧ PM own' 3 1 wr pp p1 0 n r h s ∧ PrAt own' 4 wr pq p2 n r h t.ow t.bt ∧ MemAt refK own' 2 wr p2 0 n t.m
section
variable {w wr w' : World} {pp p1 pq p2 n r h : Nat} {own1 own2 : Nat → Nat} {s t s' t' : PSt}
theorem BS.upd (hb : BS w pp p1 pq p2 n r h own1 wr s t) : Upd (fun _ => False) w wr := hb.1.upd0 (by omega)
theorem BS.new (hb : BS w pp p1 pq p2 n r h own1 wr s t) (hU : Upd (fun _ => False) wr w') : BS w pp p1 pq p2 n r h own1 w' s t := by
  have hst : Step (fun _ => False) own1 wr own1 w' := ⟨hU.mono (fun _ _ h => h), fun _ _ => rfl⟩
  exact ⟨hb.1.trans (hst.mono (fun _ h => h.elim)), ⟨hb.2.1.1.step hst (fun h => h), hb.2.1.2.step hst (fun h => h)⟩, hb.2.2.1.step hst (fun h => h) (fun _ _ h => h), hb.2.2.2.step hst (fun h => h)⟩
theorem BS.newc (hb : BS w pp p1 pq p2 n r h own1 wr s t) (hU : Upd (fun _ => False) wr w') : BS w pp p1 pq p2 n r h (ext own1 wr 0) w' s t := by
  have hst : Step (fun _ => False) own1 wr (ext own1 wr 0) w' := ⟨hU.mono (fun _ _ h => h), fun b hb => ext_old _ _ _ hb⟩
  exact ⟨hb.1.trans (hst.mono (fun _ h => h.elim)), ⟨hb.2.1.1.step hst (fun h => h), hb.2.1.2.step hst (fun h => h)⟩, hb.2.2.1.step hst (fun h => h) (fun _ _ h => h), hb.2.2.2.step hst (fun h => h)⟩
theorem BS.goP (hb : BS w pp p1 pq p2 n r h own1 wr s t) (hS : Step (fun x => x = 3 ∨ x = 1) own1 wr own2 w') (hP : PM own2 3 1 w' pp p1 0 n r h s') : Step (fun x => x ≠ 0) own1 wr own2 w' ∧ BS w pp p1 pq p2 n r h own2 w' s' t := by
  have hS' : Step (fun x => x ≠ 0) own1 wr own2 w' := hS.mono (fun x h => by omega)
  exact ⟨hS', hb.1.trans hS', hP, hb.2.2.1.step hS (by omega) (by omega), hb.2.2.2.step hS (by omega)⟩
theorem BS.goR (hb : BS w pp p1 pq p2 n r h own1 wr s t) (hS : Step (fun x => x = 4 ∨ x = 2 ∨ 100 ≤ x) own1 wr own2 w') (hP : PrAt own2 4 w' pq p2 n r h t'.ow t'.bt) (hM : MemAt refK own2 2 w' p2 0 n t'.m) : Step (fun x => x ≠ 0) own1 wr own2 w' ∧ BS w pp p1 pq p2 n r h own2 w' s t' := by
  have hS' : Step (fun x => x ≠ 0) own1 wr own2 w' := hS.mono (fun x h => by omega)
  exact ⟨hS', hb.1.trans hS', ⟨hb.2.1.1.step hS (by omega), hb.2.1.2.step hS (by omega)⟩, hP, hM⟩
theorem bs_Take (hb : BS w pp p1 pq p2 n r h own1 wr s t) (a : Int) :
    Calls Try.prog 20 #[.pointer (some ⟨pp, 0, none⟩), .int .i64 a] wr fun e w' => e = .returned (.tuple #[.int .i64 (takeP s.ow a).1, .int .i64 (takeP s.ow a).2.1]) ∧ ∃ own2, Step (fun x => x ≠ 0) own1 wr own2 w' ∧ BS w pp p1 pq p2 n r h own2 w' ⟨(takeP s.ow a).2.2, s.bt, s.m, s.cnt⟩ t := by
  refine (pool_Take hb.2.1.1 a).mono ?_
  rintro e w' ⟨rfl, hS, hP⟩
  exact ⟨rfl, _, hb.goP (hS.mono (fun x h => Or.inl h)) ⟨hP, hb.2.1.2.step hS (by omega)⟩⟩
theorem bs_TakeR (hb : BS w pp p1 pq p2 n r h own1 wr s t) (a : Int) :
    Calls Try.prog 31 #[.pointer (some ⟨pq, 0, none⟩), .int .i64 a] wr fun e w' => e = .returned (.tuple #[.int .i64 (takeP t.ow a).1, .int .i64 (takeP t.ow a).2.1]) ∧ ∃ own2, Step (fun x => x ≠ 0) own1 wr own2 w' ∧ BS w pp p1 pq p2 n r h own2 w' s ⟨(takeP t.ow a).2.2, t.bt, t.m, t.cnt⟩ := by
  refine (pr_Take hb.2.2.1 a).mono ?_
  rintro e w' ⟨rfl, hS, hP⟩
  exact ⟨rfl, _, hb.goR (hS.mono (fun x h => Or.inl h)) hP (hb.2.2.2.step hS (by omega))⟩
theorem bs_Rel (h8 : h ≤ 8) (hb : BS w pp p1 pq p2 n r h own1 wr s t) (f : Int) :
    Calls Try.prog 21 #[.pointer (some ⟨pp, 0, none⟩), .int .i64 f] wr fun e w' => e = .returned (.int .i64 (if relOk r s.ow f then 0 else 11)) ∧ ∃ own2, Step (fun x => x ≠ 0) own1 wr own2 w' ∧ BS w pp p1 pq p2 n r h own2 w' (relP r h s f) t := by
  refine (pool_Release h8 (by omega) s hb.2.1 f).mono ?_
  rintro e w' ⟨rfl, own2, hS, hP⟩
  exact ⟨rfl, own2, hb.goP hS hP⟩
theorem relP_m (r : Int) (h : Nat) (s : PSt) (f : Int) : (relP r h s f).m = s.m := by unfold relP; split <;> rfl
theorem bs_RelR (h8 : h ≤ 8) (hb : BS w pp p1 pq p2 n r h own1 wr s t) (f : Int) :
    Calls Try.prog 32 #[.pointer (some ⟨pq, 0, none⟩), .int .i64 f] wr fun e w' => e = .returned (.int .i64 (if relOk r t.ow f then 0 else 11)) ∧ ∃ own2, Step (fun x => x ≠ 0) own1 wr own2 w' ∧ BS w pp p1 pq p2 n r h own2 w' s (relP r h t f) := by
  refine (pr_Release (s := t) h8 hb.2.2.1 f).mono ?_
  rintro e w' ⟨rfl, own2, hS, hP⟩
  exact ⟨rfl, own2, hb.goR (hS.mono (fun x h => by omega)) hP (by rw [relP_m]; exact hb.2.2.2.step hS (by omega))⟩
theorem bs_Ack (h8 : h ≤ 8) (hb : BS w pp p1 pq p2 n r h own1 wr s t) (k : Int) (hk : wfI k) :
    Calls Try.prog 22 #[.pointer (some ⟨pp, 0, none⟩), .int .i64 k] wr fun e w' => e = .returned (.int .i64 ((ackP h n s.z k).cnt : Int)) ∧ ∃ own2, Step (fun x => x ≠ 0) own1 wr own2 w' ∧ BS w pp p1 pq p2 n r h own2 w' (ackP h n s.z k).z t := by
  refine (pool_Ack h8 (by omega) s.z rfl hb.2.1 k hk.1 hk.2).mono ?_
  rintro e w' ⟨rfl, own2, hS, hP⟩
  exact ⟨rfl, own2, hb.goP hS hP⟩
theorem bs_AckR (h8 : h ≤ 8) (hb : BS w pp p1 pq p2 n r h own1 wr s t) (k : Int) (h63 : k ≠ 63) :
    Calls Try.prog 33 #[.pointer (some ⟨pq, 0, none⟩), .int .i64 k] wr fun e w' => e = .returned (.int .i64 ((ackP h n t.z k).cnt : Int)) ∧ ∃ own2, Step (fun x => x ≠ 0) own1 wr own2 w' ∧ BS w pp p1 pq p2 n r h own2 w' s (ackP h n t.z k).z := by
  by_cases hk : 0 ≤ k ∧ k < h
  · obtain ⟨j, rfl⟩ := Int.eq_ofNat_of_zero_le hk.1
    have hA : ackP h n t.z (j : Int) = ackN (notB ((2 ^ j : Nat) : Int)) t.z n := by rw [ackP_in (by omega)]; simp
    rw [hA]
    refine (pr_acked (s := t.z) (cm := 2) j (Or.inr (by omega)) (by omega) rfl hb.2.2.1 hb.2.2.2).mono ?_
    rintro e w' ⟨rfl, own2, hS, hP, hM⟩
    exact ⟨rfl, own2, hb.goR (t' := (ackN (notB ((2 ^ j : Nat) : Int)) t.z n).z) hS hP hM⟩
  · have hA : ackP h n t.z k = t.z := by unfold ackP; rw [if_neg (by simpa using hk)]
    rw [hA]
    refine (pr_Ack_out hb.2.2.1 k h63 hk).mono ?_
    rintro e w' ⟨rfl, rfl⟩
    exact ⟨rfl, own1, Step.refl _ _ _, hb⟩
theorem bs_Dev (hb : BS w pp p1 pq p2 n r h own1 wr s t) :
    Calls Try.prog 23 #[.pointer (some ⟨pp, 0, none⟩)] wr fun e w' => e = .returned (.int .i64 ((ackN (notB 9223372036854775808) s.z n).cnt : Int)) ∧ ∃ own2, Step (fun x => x ≠ 0) own1 wr own2 w' ∧ BS w pp p1 pq p2 n r h own2 w' (ackN (notB 9223372036854775808) s.z n).z t := by
  refine (pool_AckDevices (by omega) s.z rfl hb.2.1).mono ?_
  rintro e w' ⟨rfl, own2, hS, hP⟩
  exact ⟨rfl, own2, hb.goP hS hP⟩
theorem bs_DevR (hb : BS w pp p1 pq p2 n r h own1 wr s t) :
    Calls Try.prog 33 #[.pointer (some ⟨pq, 0, none⟩), .int .i64 63] wr fun e w' => e = .returned (.int .i64 ((ackN (notB 9223372036854775808) t.z n).cnt : Int)) ∧ ∃ own2, Step (fun x => x ≠ 0) own1 wr own2 w' ∧ BS w pp p1 pq p2 n r h own2 w' s (ackN (notB 9223372036854775808) t.z n).z := by
  rw [show (9223372036854775808 : Int) = ((2 ^ 63 : Nat) : Int) from by decide]
  refine (pr_acked (s := t.z) (cm := 2) 63 (Or.inl rfl) (by omega) rfl hb.2.2.1 hb.2.2.2).mono ?_
  rintro e w' ⟨rfl, own2, hS, hP, hM⟩
  exact ⟨rfl, own2, hb.goR (t' := (ackN (notB ((2 ^ 63 : Nat) : Int)) t.z n).z) hS hP hM⟩
theorem bs_Waits (hb : BS w pp p1 pq p2 n r h own1 wr s t) (f : Int) :
    Calls Try.prog 25 #[.pointer (some ⟨pp, 0, none⟩), .int .i64 f] wr fun e w' => e = .returned (.int .u64 (waitsP s.bt f)) ∧ ∃ own2, Step (fun x => x ≠ 0) own1 wr own2 w' ∧ BS w pp p1 pq p2 n r h own2 w' s t := by
  refine (pool_Waits hb.2.1.1 f).mono ?_
  rintro e w' ⟨rfl, own2, hS, hP⟩
  exact ⟨rfl, own2, hb.goP (hS.mono (fun x h => Or.inl h)) ⟨hP, hb.2.1.2.step hS (by omega)⟩⟩
theorem bs_Write (hb : BS w pp p1 pq p2 n r h own1 wr s t) (hm : s.m = t.m) (addr size v : Int) (ha0 : 0 ≤ addr) (ha1 : addr < 18446744073709551616) (hs0 : -9223372036854775808 ≤ size) (hs1 : size ≤ 9223372036854775807) (hv0 : 0 ≤ v) (hv1 : v < 18446744073709551616) :
    Calls Try.prog 34 #[.agg #[.pointer (some ⟨p1, 0, none⟩), .pointer (some ⟨p2, 0, none⟩)], .int .u64 addr, .int .i64 size, .int .u64 v] wr fun e w' =>
      e = .returned (.tuple #[]) ∧ ∃ own2, Step (fun x => x ≠ 0) own1 wr own2 w' ∧ BS w pp p1 pq p2 n r h own2 w' ⟨s.ow, s.bt, wrR 0 n s.m addr size v, s.cnt⟩ ⟨t.ow, t.bt, wrR 0 n t.m addr size v, t.cnt⟩ := by
  refine (two_Write (c1 := 1) (c2 := 2) (by omega) hb.2.1.2 (by rw [hm]; exact hb.2.2.2) addr size v ha0 ha1 hs0 hs1 hv0 hv1).mono ?_
  rintro e w' ⟨rfl, own2, hS, hM1, hM2⟩
  have hS' : Step (fun x => x ≠ 0) own1 wr own2 w' := hS.mono (fun x h => by omega)
  exact ⟨rfl, own2, hS', hb.1.trans hS', ⟨hb.2.1.1.step hS (by omega), hM1⟩, hb.2.2.1.step hS (by omega) (by omega), by rw [← hm]; exact hM2⟩
theorem bs_Same (hb : BS w pp p1 pq p2 n r h own1 wr s t) (hm : s.m = t.m) :
    Calls Try.prog 38 #[.agg #[.pointer (some ⟨p1, 0, none⟩), .pointer (some ⟨p2, 0, none⟩)]] wr fun e w' => e = .returned (.bool true) ∧ Upd (fun _ => False) wr w' := by
  refine (two_Same (c1 := 1) (c2 := 2) hb.2.1.2 (by rw [hm]; exact hb.2.2.2)).mono ?_
  rintro e w' ⟨rfl, own2, hS⟩
  exact ⟨rfl, hS.upd.mono (fun _ _ h => h)⟩
theorem Step.locB {own1 own2 : Nat → Nat} {w1 w2 : World} (h : Step (fun x => x ≠ 0) own1 w1 own2 w2) {b : Nat} {t : TypeId} {cs : Array Value} (hb : Blk w1 b t cs ∧ own1 b = 0) : Blk w2 b t cs ∧ own2 b = 0 := h.blk hb.1 hb.2 (by omega)
end
end Go.Proofs.Ytpodeclkgcgpgaa
