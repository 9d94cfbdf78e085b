import Derived.Test.YtlgcplekcmocbaaIoG
import Derived.Test.YtlgcplekcmocbaaIo9
import Derived.Test.YtlgcplekcmocbaaUma
import Derived.Test.YtlgcplekcmocbaaUmb
import Derived.Test.YtlgcplekcmocbaaUmy
import Derived.Test.YtlgcplekcmocbaaLaw3
/- The IOMMU: Set, Drop, Remap, Ring, Message, Evict, InvalidatePage, whatever is said. -/
namespace Go.Proofs.Ytlgcplekcmocbaa
set_option linter.unusedVariables false
set_option linter.unusedSimpArgs false
open Go.RowKit
set_option maxRecDepth 100000

section
variable {own : Nat → Nat} {c cm ct cd p rp tp n r : Nat} {w : World} {s : Us} {m : Nat → Int} {l : List Tr}
theorem io_SetX (h : UsAt own c w p rp tp s) (dev : Int) (x : Nat) : Calls Try.prog 18 #[.pointer (some ⟨p, 0, none⟩), .int .i64 dev, .int .u64 (x : Int)] w fun e w' => e = .returned (.int .i64 (setRA dev x)) ∧ Step (· = c) own w own w' ∧ UsAt own c w' p rp tp (setSA s dev x) := by
  by_cases hg : (0 ≤ dev ∧ dev < 8) ∧ x ≠ 0
  · obtain ⟨k, rfl⟩ := Int.eq_ofNat_of_zero_le hg.1.1
    rw [show setRA (k : Int) x = 0 from if_pos hg, show setSA s (k : Int) x = usRt s k x from if_pos hg]
    exact io_Set h k x (by omega) hg.2
  · rw [show setRA dev x = 1 from if_neg hg, show setSA s dev x = s from if_neg hg]
    refine (io_Set_bad dev x (by omega) w).mono ?_
    rintro e w1 ⟨rfl, rfl⟩
    exact ⟨rfl, Step.refl _ _ _, h⟩
theorem io_DropX (h : UsAt own c w p rp tp s) (dev : Int) : Calls Try.prog 20 #[.pointer (some ⟨p, 0, none⟩), .int .i64 dev] w fun e w' => e = .returned (.int .i64 (dropRA dev)) ∧ Step (· = c) own w own w' ∧ UsAt own c w' p rp tp (dropSA s dev) := by
  by_cases hg : 0 ≤ dev ∧ dev < 8
  · obtain ⟨k, rfl⟩ := Int.eq_ofNat_of_zero_le hg.1
    rw [show dropRA (k : Int) = 0 from if_pos hg, show dropSA s (k : Int) = usRt s k 0 from if_pos hg]
    exact io_Drop h k (by omega)
  · rw [show dropRA dev = 1 from if_neg hg, show dropSA s dev = s from if_neg hg]
    refine (io_Drop_bad dev hg w).mono ?_
    rintro e w1 ⟨rfl, rfl⟩
    exact ⟨rfl, Step.refl _ _ _, h⟩
def remS (s : Us) (dev : Int) (k : Nat) (g i : Int) : Us := if remOk dev k then usMs s dev.toNat k g i else s
theorem io_Remap_bad (dev : Int) (k : Nat) (hk : k < 18446744073709551616) (g i : Int) (hb : remOk dev k = false) (own : Nat → Nat) (w : World) : Calls Try.prog 14 #[.pointer (some ⟨p, 0, none⟩), .int .i64 dev, .int .u64 (k : Int), .agg #[.int .i64 g, .int .i64 i]] w fun e w' => e = .returned (.int .i64 1) ∧ Step (fun _ => False) own w own w' := by
  have HT := Lib.hid (fun w => io_there dev w)
  have hst := step_allocS own w (.cells #[.int .i64 g, .int .i64 i] 38)
  have HS := Lib.hid hst
  by_cases hd : 0 ≤ dev ∧ dev < 8
  · have hde : decide (0 ≤ dev ∧ dev < 8) = true := decide_eq_true hd
    have hkd : decide ((32 : Int) ≤ (k : Int)) = true := by unfold remOk at hb; rw [hde] at hb; simp at hb ⊢; omega
    clear hst hb hd
    go_enter Try.func14, Try.ntmps14
    go_wp2_with fail
    ((with_reducible refine (HT.out _).mono ?_); rintro e wz ⟨rfl, rfl⟩)
    rw [hde]
    clear HT
    go_wp2
    go_ret
    exact ⟨rfl, HS.out⟩
  · have hde : decide (0 ≤ dev ∧ dev < 8) = false := decide_eq_false hd
    clear hst hb hd
    go_enter Try.func14, Try.ntmps14
    go_wp2_with fail
    ((with_reducible refine (HT.out _).mono ?_); rintro e wz ⟨rfl, rfl⟩)
    rw [hde]
    clear HT
    go_wp2
    go_ret
    exact ⟨rfl, HS.out⟩
theorem io_RemapX (h : UsAt own c w p rp tp s) (dev : Int) (k : Nat) (hk : k < 18446744073709551616) (g i : Int) : Calls Try.prog 14 #[.pointer (some ⟨p, 0, none⟩), .int .i64 dev, .int .u64 (k : Int), .agg #[.int .i64 g, .int .i64 i]] w fun e w' => e = .returned (.int .i64 (if remOk dev k then 0 else 1)) ∧ ∃ own', Step (· = c) own w own' w' ∧ UsAt own' c w' p rp tp (remS s dev k g i) := by
  cases hr : remOk dev k with
  | true =>
    obtain ⟨hd, hk32⟩ : (0 ≤ dev ∧ dev < 8) ∧ k < 32 := by unfold remOk at hr; simpa using hr
    obtain ⟨d, rfl⟩ := Int.eq_ofNat_of_zero_le hd.1
    rw [show remS s (d : Int) k g i = usMs s d k g i from by unfold remS; rw [hr]; rfl]
    exact io_Remap h d k (by omega) hk32 g i
  | false =>
    rw [show remS s dev k g i = s from by unfold remS; rw [hr]; rfl]
    refine (io_Remap_bad dev k hk g i hr own w).mono ?_
    rintro e w1 ⟨rfl, hS⟩
    exact ⟨rfl, own, hS.mono (fun _ h => h.elim), h.step hS (fun h => h)⟩
theorem io_RingX (hU : UsAt own c w p rp tp s) (hM : MemAt ramK own cm w rp 0 n m) (a : Nat) (ha : a < 18446744073709551616) :
    Calls Try.prog 13 #[.pointer (some ⟨p, 0, none⟩), .int .u64 (a : Int)] w fun e w' => e = .returned (.int .i64 (if ringOk n a then 0 else 1)) ∧ Step (· = c) own w own w' ∧ UsAt own c w' p rp tp (ringS n s a) := by
  cases hr : ringOk n a with
  | true =>
    obtain ⟨h1, h2⟩ : a % 4096 = 0 ∧ a + 4096 ≤ n * 4096 := by unfold ringOk at hr; simpa using hr
    rw [show ringS n s a = usRg s a from by unfold ringS; rw [hr]; rfl]
    exact io_Ring hU hM a h1 h2
  | false =>
    rw [show ringS n s a = s from by unfold ringS; rw [hr]; rfl]
    obtain ⟨c0, _⟩ := hU.rest
    by_cases hz : a % 4096 = 0
    · have hh := ram_hasC hM (a : Int) 4096 (by omega) (by omega) (by decide) (by decide)
      rw [← ring_has hz, hr] at hh
      have HH := Lib.hid hh
      have hz2 : (a : Int) % 4096 = 0 := by omega
      have HU := Lib.hid hU
      clear hU hM hh hr
      go_enter Try.func13, Try.ntmps13
      go_wp2_with fail
      ((with_reducible refine HH.out.mono ?_); rintro e wz ⟨rfl, q, rfl⟩)
      have hst : Step (fun _ => False) own w own (w.drewN q) := (Step.refl _ _ _).drewN q
      have HF := Lib.hid (And.intro (hst.mono (C' := (· = c)) (fun _ h => h.elim)) (HU.out.step hst (fun h => h)))
      clear HH HU hst
      go_wp2
      go_ret
      exact ⟨rfl, HF.out⟩
    · have hz2 : ((a : Int) % 4096 == 0) = false := by simp; omega
      have hz3 : ((a : Int) % 4096 != 0) = true := by simp; omega
      have HF := Lib.hid (And.intro (Step.refl (· = c) own w) hU)
      clear hU hM hr
      go_enter Try.func13, Try.ntmps13
      go_wp2
      go_ret
      exact ⟨rfl, HF.out⟩
/-- the places of both are the same -/
def MsRel (s : Us) (ms : List To4) : Prop := ∀ d k : Nat, d < 8 → msL ms d k = if k < 32 then (s.mg d k, s.mi d k) else (0, 0)
theorem MsRel.init : MsRel us0 [] := fun d k hd => by split <;> rfl
theorem MsRel.rem {s : Us} {ms : List To4} (h : MsRel s ms) (dev : Int) (k : Nat) (g i : Int) : MsRel (remS s dev k g i) (if remOk dev k then ms ++ [⟨dev, k, g, i⟩] else ms) := by
  unfold remS
  cases hr : remOk dev k with
  | false => simp only [Bool.false_eq_true, if_false]; exact h
  | true =>
    simp only [if_true]
    obtain ⟨hd, hk32⟩ : (0 ≤ dev ∧ dev < 8) ∧ k < 32 := by unfold remOk at hr; simpa using hr
    obtain ⟨d, rfl⟩ := Int.eq_ofNat_of_zero_le hd.1
    intro d' k' hd'
    rw [msL_snoc]
    simp only [Int.toNat_natCast]
    by_cases he : d = d' ∧ k = k'
    · obtain ⟨rfl, rfl⟩ := he
      rw [if_pos ⟨rfl, rfl⟩, if_pos hk32]
      show (g, i) = ((if d = d ∧ k = k then g else s.mg d k), (if d = d ∧ k = k then i else s.mi d k))
      rw [if_pos ⟨rfl, rfl⟩, if_pos ⟨rfl, rfl⟩]
    · rw [if_neg (by omega), h d' k' hd']
      split
      · show _ = ((if d' = d ∧ k' = k then g else s.mg d' k'), (if d' = d ∧ k' = k then i else s.mi d' k'))
        rw [if_neg (by omega), if_neg (by omega)]
      · rfl
theorem MsRel.of_mg {s s' : Us} {ms : List To4} (h : MsRel s ms) (h1 : s'.mg = s.mg) (h2 : s'.mi = s.mi) : MsRel s' ms := by
  intro d k hd; rw [h1, h2]; exact h d k hd
set_option maxHeartbeats 1500000 in
theorem io_Msg_far (dev : Int) (hd : ¬ (0 ≤ dev ∧ dev < 8)) (a k : Int) (own : Nat → Nat) (w : World) :
    Calls Try.prog 15 #[.pointer (some ⟨p, 0, none⟩), .int .i64 dev, .int .u64 a, .int .u64 k] w fun e w' => e = .returned (.tuple #[.agg #[.int .i64 0, .int .i64 0], .bool false]) ∧ Step (fun _ => False) own w own w' := by
  have HT := Lib.hid (fun w => io_there dev w)
  have hde : decide (0 ≤ dev ∧ dev < 8) = false := decide_eq_false hd
  have HB := Lib.hid (fun w => io_blocked_no (p := p) dev hd 5 a w)
  have hB := Blk.new w 38 #[.int .i64 0, .int .i64 0]
  have z0 := hB.frozen 0
  have z1 := hB.frozen 1
  have x0 := hB.cell 0
  have x1 := hB.cell 1
  simp only [List.getElem?_toArray, List.getElem?_cons_zero, List.getElem?_cons_succ] at x0 x1
  have hl := hB.lt
  have HBk := Lib.hid hB
  have HS := Lib.hid (step_allocS own w (.cells #[.int .i64 0, .int .i64 0] 38))
  clear hB hd
  go_enter Try.func15, Try.ntmps15
  go_wp2_with fail
  ((with_reducible refine (HT.out _).mono ?_); rintro e wz ⟨rfl, rfl⟩)
  rw [hde]
  clear HT
  go_wp2_with fail
  ((with_reducible refine (HB.out _).mono ?_); rintro e wz ⟨rfl, rfl⟩)
  go_wp2
  refine bodyPost_ret (results_cell_tmp_row rfl _ _ w.heap.size 38 #[.int .i64 0, .int .i64 0] _ rfl HBk.out Try.underlying38 rfl (by kernel_rfl)) rfl ?_
  exact ⟨rfl, HS.out⟩
theorem io_MsgX (hU : UsAt own c w p rp tp s) (hM : MemAt ramK own cm w rp 0 n m) (hcm : c ≠ cm) (hok : UsOk n s) {ms : List To4} (hr : MsRel s ms) (dev : Int) (a k : Nat) (ha : a < 18446744073709551616) :
    Calls Try.prog 15 #[.pointer (some ⟨p, 0, none⟩), .int .i64 dev, .int .u64 (a : Int), .int .u64 (k : Int)] w fun e w' => e = .returned (.tuple #[.agg #[.int .i64 (msgV ms dev a k).1, .int .i64 (msgV ms dev a k).2], .bool (msgOk ms dev a k)]) ∧
      ∃ own', Step (fun x => x = c ∨ x = cm) own w own' w' ∧ UsAt own' c w' p rp tp (msgS s ms dev a k) ∧ MemAt ramK own' cm w' rp 0 n (msgM s m ms dev a k) := by
  by_cases hd : 0 ≤ dev ∧ dev < 8
  · obtain ⟨d, rfl⟩ := Int.eq_ofNat_of_zero_le hd.1
    have hd8 : d < 8 := by omega
    have hdd : decide (0 ≤ (d : Int) ∧ (d : Int) < 8) = true := decide_eq_true hd
    have hrel := hr d k hd8
    by_cases hg : a = 4276092928 ∧ k < 32 ∧ s.mg d k ≠ 0
    · obtain ⟨rfl, hk, hm⟩ := hg
      rw [if_pos hk] at hrel
      have hok1 : msgOk ms d 4276092928 k = true := by unfold msgOk; rw [hrel, hdd]; simpa using hm
      rw [hok1, show msgV ms d 4276092928 k = (s.mg d k, s.mi d k) from by unfold msgV; rw [hok1]; exact hrel, show msgS s ms d 4276092928 k = s from by unfold msgS; rw [hok1]; rfl, show msgM s m ms d 4276092928 k = m from by unfold msgM; rw [hok1]; rfl, show ((4276092928 : Nat) : Int) = 4276092928 from rfl]
      refine (io_Msg_good hU hM d k hd8 hk hm).mono ?_
      rintro e w1 ⟨rfl, own1, hS, hU1, hM1⟩
      exact ⟨rfl, own1, hS.mono (fun _ h => h.elim), hU1, hM1⟩
    · have hok1 : msgOk ms d a k = false := by
        unfold msgOk
        rw [hdd, hrel]
        by_cases h1 : a = 4276092928
        · by_cases h2 : k < 32
          · rw [if_pos h2]
            have h3 : s.mg d k = 0 := by
              by_cases h3 : s.mg d k = 0
              · exact h3
              · exact absurd ⟨h1, h2, h3⟩ hg
            simp [h3]
          · rw [if_neg h2]; simp
        · simp [h1]
      have e1 : accSt s (d : Int) 5 = recS s := by unfold accSt; rw [if_neg (by omega)]
      have e2 : accMt s m (d : Int) 5 a = recM s m d 5 a := by unfold accMt; rw [if_neg (by omega)]; rfl
      rw [hok1, show msgV ms d a k = (0, 0) from by unfold msgV; rw [hok1]; rfl, show msgS s ms d a k = recS s from by unfold msgS; rw [hok1]; exact e1, show msgM s m ms d a k = recM s m d 5 a from by unfold msgM; rw [hok1]; exact e2]
      exact io_Msg_bad hU hM hcm hok d a k hd8 ha (by
        by_cases h1 : a = 4276092928
        · by_cases h2 : k < 32
          · right; right
            by_cases h3 : s.mg d k = 0
            · exact h3
            · exact absurd ⟨h1, h2, h3⟩ hg
          · right; left; omega
        · left; exact h1)
  · have hok1 : msgOk ms dev a k = false := by unfold msgOk; rw [decide_eq_false hd]; rfl
    have e1 : accSt s dev 5 = s := by unfold accSt; rw [if_pos (.inr hd)]
    have e2 : accMt s m dev 5 a = m := by unfold accMt; rw [if_pos (.inr hd)]
    rw [hok1, show msgV ms dev a k = (0, 0) from by unfold msgV; rw [hok1]; rfl, show msgS s ms dev a k = s from by unfold msgS; rw [hok1]; exact e1, show msgM s m ms dev a k = m from by unfold msgM; rw [hok1]; exact e2]
    refine (io_Msg_far dev hd a k own w).mono ?_
    rintro e w1 ⟨rfl, hS⟩
    exact ⟨rfl, own, hS.mono (fun _ h => h.elim), hU.step hS (fun h => h), hM.step hS (fun h => h)⟩
theorem io_EvictX (hU : UsAt own c w p rp tp s) (hT : TlbAt own ct cd w tp r l) (hcd : ct ≠ cd) (i : Int) :
    Calls Try.prog 53 #[.pointer (some ⟨p, 0, none⟩), .int .i64 i] w fun e w' => e = .returned (.bool (evictB l i)) ∧ ∃ own', Step (· = ct) own w own' w' ∧ TlbAt own' ct cd w' tp r (evictT l i) := by
  obtain ⟨c0, c1, _⟩ := hU.rest
  have HF := Lib.hid (tlb_Evict hT hcd i)
  clear hU hT
  go_enter Try.func53, Try.ntmps53
  go_wp2_with fail
  ((with_reducible refine HF.out.mono ?_); rintro e w1 ⟨rfl, h1⟩)
  have H1 := Lib.hid h1
  clear h1 HF
  go_wp2
  go_ret
  exact ⟨rfl, H1.out⟩
theorem io_InvPage (hU : UsAt own c w p rp tp s) (hT : TlbAt own ct cd w tp r l) (hcd : ct ≠ cd) (dev pg : Int) :
    Calls Try.prog 51 #[.pointer (some ⟨p, 0, none⟩), .int .i64 dev, .int .u64 pg] w fun e w' => e = .returned (.tuple #[]) ∧ ∃ own', Step (· = ct) own w own' w' ∧ TlbAt own' ct cd w' tp r (flushP l dev pg) := by
  obtain ⟨c0, c1, _⟩ := hU.rest
  have HF := Lib.hid (tlb_FlushPage hT hcd dev pg)
  clear hU hT
  go_enter Try.func51, Try.ntmps51
  go_wp2_with fail
  ((with_reducible refine HF.out.mono ?_); rintro e w1 ⟨rfl, h1⟩)
  have H1 := Lib.hid h1
  clear h1 HF
  go_wp2
  go_end0
  exact ⟨rfl, H1.out⟩
end
/-- S made more of, from here on -/
theorem wpE_mono {P : Program} {ops : Array Oper} {Q : Exit → Act → World → Prop} {S S' : World → Prop} {s : Nat} (hS : ∀ w, S' w → S w) : ∀ (n : Nat) (done : Array Bool) (a : Act) (w : World), wpE P ops Q S' s n done a w → wpE P ops Q S s n done a w
  | 0, _, _, _, h => h
  | n + 1, _, _, _, h => ⟨h.1, fun i hi => wpOp_mono (fun a' w' h' => ⟨h'.1.imp id (hS w'), wpE_mono hS n _ a' w' h'.2⟩) (h.2 i hi)⟩
end Go.Proofs.Ytlgcplekcmocbaa

/- IommuPlays: what is carried along. -/
namespace Go.Proofs.Ytlgcplekcmocbaa
set_option linter.unusedVariables false
set_option linter.unusedSimpArgs false
open Go.RowKit
set_option maxRecDepth 100000

/-- the program's side; the document's -/
structure PA (own : Nat → Nat) (w : World) (p rp tp r : Nat) (s : Us) (m : Nat → Int) (l : List Tr) : Prop where
  u : UsAt own 1 w p rp tp s
  mm : MemAt ramK own 2 w rp 0 8 m
  t : TlbAt own 3 4 w tp r l
structure PD (own : Nat → Nat) (w : World) (q p2 t2 r : Nat) (s : Us) (m : Nat → Int) (l : List Tr) (ms : List To4) : Prop where
  mr : MemAt refK own 5 w p2 0 8 m
  ur : UrefAt own 6 10 w q p2 t2 s ms
  tr : TrefAt own 11 12 w t2 r l
structure PI (s : Us) (l : List Tr) (ms : List To4) : Prop where
  ok : UsOk 8 s
  el : EntsOk l
  uq : UniqT l
  rel : MsRel s ms
/-- the law's object and a call, boxed -/
structure DX (own : Nat → Nat) (w : World) (ob xb p q rp p2 : Nat) (xk xd xs : Int) (xa xv : Nat) (xw : Bool) (xg xq : Int) : Prop where
  b : Blk w ob 31 #[.pointer (some ⟨p, 0, none⟩), .pointer (some ⟨q, 0, none⟩), .pointer (some ⟨rp, 0, none⟩), .pointer (some ⟨p2, 0, none⟩)]
  o : own ob = 50
  b2 : Blk w xb 54 #[.int .i64 xk, .int .i64 xd, .int .i64 xs, .int .u64 (xa : Int), .int .u64 (xv : Int), .bool xw, .int .i64 xg, .int .i64 xq]
  o2 : own xb = 50
section
variable {own own' : Nat → Nat} {w w' : World} {p q rp tp p2 t2 r ob xb : Nat} {s : Us} {m : Nat → Int} {l : List Tr} {ms : List To4} {xk xd xs xg xq : Int} {xa xv : Nat} {xw : Bool}
theorem PA.step {C : Nat → Prop} (h : PA own w p rp tp r s m l) (hS : Step C own w own' w') (hC : ∀ x, C x → x = 0 ∨ 4 < x) : PA own' w' p rp tp r s m l :=
  ⟨h.u.step hS (fun h => by have := hC _ h; omega), h.mm.step hS (fun h => by have := hC _ h; omega), h.t.step hS (fun h => by have := hC _ h; omega) (fun h => by have := hC _ h; omega)⟩
theorem PD.step {C : Nat → Prop} (h : PD own w q p2 t2 r s m l ms) (hS : Step C own w own' w') (hC : ∀ x, C x → x < 5 ∨ 12 < x) : PD own' w' q p2 t2 r s m l ms :=
  ⟨h.mr.step hS (fun h => by have := hC _ h; omega), h.ur.step hS (fun h => by have := hC _ h; omega) (fun h => by have := hC _ h; omega), h.tr.step hS (fun h => by have := hC _ h; omega) (fun h => by have := hC _ h; omega)⟩
theorem DX.step {C : Nat → Prop} (h : DX own w ob xb p q rp p2 xk xd xs xa xv xw xg xq) (hS : Step C own w own' w') (hC : ¬ C 50) : DX own' w' ob xb p q rp p2 xk xd xs xa xv xw xg xq := by
  obtain ⟨h1, h2⟩ := hS.blk h.b h.o hC
  obtain ⟨h3, h4⟩ := hS.blk h.b2 h.o2 hC
  exact ⟨h1, h2, h3, h4⟩
theorem DX.cells (h : DX own w ob xb p q rp p2 xk xd xs xa xv xw xg xq) : w.cell? ⟨ob, 0, none⟩ = some (.pointer (some ⟨p, 0, none⟩)) ∧ w.cell? ⟨ob, 1, none⟩ = some (.pointer (some ⟨q, 0, none⟩)) ∧ w.cell? ⟨xb, 1, none⟩ = some (.int .i64 xd) ∧ w.cell? ⟨xb, 2, none⟩ = some (.int .i64 xs) ∧ w.cell? ⟨xb, 3, none⟩ = some (.int .u64 (xa : Int)) ∧ w.cell? ⟨xb, 4, none⟩ = some (.int .u64 (xv : Int)) ∧ w.cell? ⟨xb, 5, none⟩ = some (.bool xw) ∧ w.cell? ⟨xb, 6, none⟩ = some (.int .i64 xg) ∧ w.cell? ⟨xb, 7, none⟩ = some (.int .i64 xq) ∧ ob < w.heap.size ∧ xb < w.heap.size :=
  ⟨h.b.cell 0, h.b.cell 1, h.b2.cell 1, h.b2.cell 2, h.b2.cell 3, h.b2.cell 4, h.b2.cell 5, h.b2.cell 6, h.b2.cell 7, h.b.lt, h.b2.lt⟩
/-- what is there for every load of a call -/
def dS (ob xb q p t2 : Nat) (xd xs : Int) (xa xv : Nat) (xg xq : Int) (W : World) : Prop :=
  W.cell? ⟨ob, 0, none⟩ = some (.pointer (some ⟨p, 0, none⟩)) ∧ W.cell? ⟨ob, 1, none⟩ = some (.pointer (some ⟨q, 0, none⟩)) ∧ W.cell? ⟨xb, 1, none⟩ = some (.int .i64 xd) ∧ W.cell? ⟨xb, 2, none⟩ = some (.int .i64 xs) ∧ W.cell? ⟨xb, 3, none⟩ = some (.int .u64 (xa : Int)) ∧ W.cell? ⟨xb, 4, none⟩ = some (.int .u64 (xv : Int)) ∧ W.cell? ⟨xb, 6, none⟩ = some (.int .i64 xg) ∧ W.cell? ⟨xb, 7, none⟩ = some (.int .i64 xq) ∧ W.cell? ⟨q, 1, none⟩ = some (.pointer (some ⟨t2, 0, none⟩))
theorem DX.dS (h : DX own w ob xb p q rp p2 xk xd xs xa xv xw xg xq) (hd : PD own w q p2 t2 r s m l ms) : Go.Proofs.Ytlgcplekcmocbaa.dS ob xb q p t2 xd xs xa xv xg xq w := by
  obtain ⟨h0, h1, h2, h3, h4, h5, _, h6, h7, _⟩ := h.cells
  exact ⟨h0, h1, h2, h3, h4, h5, h6, h7, hd.ur.cells.2.1⟩
end
theorem EntsOk.flushP {l : List Tr} (h : EntsOk l) (v p : Int) : EntsOk (flushP l v p) := fun t ht => h t (List.mem_filter.1 ht).1
theorem EntsOk.evict {l : List Tr} (h : EntsOk l) (i : Int) : EntsOk (evictT l i) := by
  unfold evictT
  split
  · split
    · exact h.flushP _ _
    · exact h
  · exact h
theorem accL_uniq {n : Nat} {m : Nat → Int} {root room : Nat} {l : List Tr} {d a size acc : Nat} (h : UniqT l) : UniqT (accL n m root room l d a size acc).2.2 := by
  unfold accL
  split
  · split
    · split <;> exact h
    · split
      · exact h
      · split <;> exact h.put _ _
  · split
    · exact h
    · split <;> exact h.put _ _
theorem accA_uniq {n : Nat} {m : Nat → Int} {s : Us} {room : Nat} {l : List Tr} (h : UniqT l) (dev : Int) (a : Nat) (sz : Int) (wr : Bool) : UniqT (accA n m s room l dev a sz wr).2.2 := by
  unfold accA
  split
  · exact h
  · split
    · exact h
    · exact accL_uniq h
theorem recS_mi (s : Us) : (recS s).mi = s.mi := by unfold recS; split <;> rfl
theorem PI.accSt {s : Us} {l : List Tr} {ms : List To4} (h : PI s l ms) (dev : Int) (k : Nat) : PI (accSt s dev k) l ms := by
  unfold Go.Proofs.Ytlgcplekcmocbaa.accSt
  split
  · exact h
  · exact ⟨h.ok.kRec, h.el, h.uq, h.rel.of_mg (recS_mg s) (recS_mi s)⟩
theorem PI.msgS {s : Us} {l : List Tr} {ms : List To4} (h : PI s l ms) (dev : Int) (a : Nat) (k : Int) : PI (msgS s ms dev a k) l ms := by
  unfold Go.Proofs.Ytlgcplekcmocbaa.msgS
  split
  · exact h
  · exact h.accSt dev 5
theorem PI.set {s : Us} {l : List Tr} {ms : List To4} (h : PI s l ms) (dev : Int) (x : Nat) (hx : x < 18446744073709551616) : PI (setSA s dev x) l ms := by
  unfold setSA
  split
  · exact ⟨h.ok.kRt _ x hx, h.el, h.uq, h.rel.of_mg rfl rfl⟩
  · exact h
theorem PI.drop {s : Us} {l : List Tr} {ms : List To4} (h : PI s l ms) (dev : Int) : PI (dropSA s dev) l ms := by
  unfold dropSA
  split
  · exact ⟨h.ok.kRt _ 0 (by decide), h.el, h.uq, h.rel.of_mg rfl rfl⟩
  · exact h
theorem PI.rem {s : Us} {l : List Tr} {ms : List To4} (h : PI s l ms) (dev : Int) (k : Nat) (g i : Int) : PI (remS s dev k g i) l (if remOk dev k then ms ++ [⟨dev, k, g, i⟩] else ms) := by
  refine ⟨?_, h.el, h.uq, h.rel.rem dev k g i⟩
  unfold remS
  split
  · exact h.ok.kMs _ _ _ _
  · exact h.ok
theorem PI.ring {s : Us} {l : List Tr} {ms : List To4} (h : PI s l ms) (a : Nat) (ha : a < 18446744073709551616) : PI (ringS 8 s a) l ms := by
  unfold ringS
  split
  · rename_i hr
    obtain ⟨h1, h2⟩ : a % 4096 = 0 ∧ a + 4096 ≤ 8 * 4096 := by unfold ringOk at hr; simpa using hr
    exact ⟨h.ok.kRg a ha h1 h2, h.el, h.uq, h.rel.of_mg rfl rfl⟩
  · exact h
theorem PI.next {s : Us} {l : List Tr} {ms : List To4} (h : PI s l ms) : PI (nextS s) l ms := by
  refine ⟨h.ok.kNext, h.el, h.uq, h.rel.of_mg ?_ ?_⟩ <;> (unfold nextS; split <;> rfl)
theorem PI.clear {s : Us} {l : List Tr} {ms : List To4} (h : PI s l ms) : PI { s with ov := false } l ms := ⟨⟨h.ok.root, h.ok.ring, h.ok.al, h.ok.fi, h.ok.un⟩, h.el, h.uq, h.rel.of_mg rfl rfl⟩
end Go.Proofs.Ytlgcplekcmocbaa
