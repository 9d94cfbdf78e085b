import Derived.Test.YtonhlgfgbdiapaaGreatIoN
import Derived.Test.YtonhlgfgbdiapaaGreatTlb3
import Derived.Test.YtonhlgfgbdiapaaGreatIoR
import Derived.Test.YtonhlgfgbdiapaaGreatIo5
import Derived.Test.YtonhlgfgbdiapaaGreatMref3
import Derived.Test.YtonhlgfgbdiapaaGreatTlb4
import Derived.Test.YtonhlgfgbdiapaaGreatIo4
import Derived.Test.YtonhlgfgbdiapaaGreatIoA
import Derived.Test.YtonhlgfgbdiapaaGreatPlace
import Derived.Test.YtonhlgfgbdiapaaGreatTref
import Derived.Test.YtonhlgfgbdiapaaGreatGst2
import Derived.Test.YtonhlgfgbdiapaaGreatLaw3
import Derived.Test.YtonhlgfgbdiapaaGreatRam2
import Derived.Test.YtonhlgfgbdiapaaGreatBase
import Derived.Maps.Keyed
import Derived.Test.YtonhlgfgbdiapaaGreatMake
import Derived.Test.YtonhlgfgbdiapaaGreatChecked
import Derived.Tactics2
import Derived.Defers
import Derived.Laws.Pointers
import Derived.Laws.LoneSync
import Derived.RegionTactic
import Derived.RegionCalls
import Derived.ChangeAlike
/- One side of a law over the IOMMU: its state; Access, Set, Invalidate, Entries; what is remembered does not matter. -/
namespace Go.Proofs.YtonhlgfgbdiapaaGreat
set_option linter.unusedVariables false
set_option linter.unusedSimpArgs false
open Go.RowKit
set_option maxRecDepth 100000

/-- what an access comes to, by the tables alone -/
def accTT (n : Nat) (m : Nat → Int) (s : Us) (dev : Int) (a : Nat) (sz : Int) (wr : Bool) : Nat × Nat :=
  if wellA sz a = false then (0, 4) else if rootP s dev = 0 then (0, 1) else accT n m (rootP s dev) a sz.toNat (accW wr)
theorem accW_cases (wr : Bool) : accW wr = 2 ∨ accW wr = 3 := by unfold accW; split <;> simp
theorem rootP_pos {s : Us} {dev : Int} (h : rootP s dev ≠ 0) : ∃ d : Nat, dev = d ∧ d < 8 ∧ rootP s dev = s.rt d ∧ s.rt d ≠ 0 := by
  have hd : 0 ≤ dev ∧ dev < 8 := by
    unfold rootP at h
    split at h
    · assumption
    · exact absurd rfl h
  obtain ⟨d, rfl⟩ := Int.eq_ofNat_of_zero_le hd.1
  have e : rootP s (d : Int) = s.rt d := by unfold rootP; rw [if_pos hd]; rfl
  exact ⟨d, rfl, by omega, e, by rw [← e]; exact h⟩
theorem accA_sound {n : Nat} {m : Nat → Int} (hm : ∀ x, 0 ≤ m x ∧ m x < 256) {s : Us} {l : List Tr} (h : SoundL n m s.rt l) (room : Nat) (dev : Int) (a : Nat) (sz : Int) (wr : Bool) :
    ((accA n m s room l dev a sz wr).1, (accA n m s room l dev a sz wr).2.1) = accTT n m s dev a sz wr ∧ SoundL n m s.rt (accA n m s room l dev a sz wr).2.2 := by
  unfold accA accTT
  split
  · exact ⟨rfl, h⟩
  · split
    · exact ⟨rfl, h⟩
    · rename_i hr
      obtain ⟨d, rfl, hd, e, hr2⟩ := rootP_pos hr
      rw [e]
      exact accL_sound hm h hd hr2 (accW_cases wr) room a sz.toNat
section
variable {K : Nat} {own own' : Nat → Nat} {w w' : World} {p rp tp r : Nat} {s : Us} {m : Nat → Int} {l : List Tr}
end
end Go.Proofs.YtonhlgfgbdiapaaGreat

/- A table of one page of tables, in plain numbers. -/
namespace Go.Proofs.YtonhlgfgbdiapaaGreat
set_option linter.unusedVariables false
set_option linter.unusedSimpArgs false
open Go.RowKit
set_option maxRecDepth 100000

section
variable {w0 w w' : World} {own own' : Nat → Nat} {p q rp tp p2 xo r : Nat} {s s2 : Us} {m m2 : Nat → Int} {l l2 : List Tr}
end
end Go.Proofs.YtonhlgfgbdiapaaGreat

/- The document's IOMMU (citadelref07.U): its cells; none, Set, Drop, Root, Ring. -/
namespace Go.Proofs.YtonhlgfgbdiapaaGreat
set_option linter.unusedVariables false
set_option linter.unusedSimpArgs false
open Go.RowKit
set_option maxRecDepth 100000

section
variable {own own' : Nat → Nat} {c d q p2 t2 n cm : Nat} {w : World} {s s' : Us} {ms : List To4} {m : Nat → Int}
/-- what Set tells -/
def setRA (dev : Int) (x : Nat) : Int := if (0 ≤ dev ∧ dev < 8) ∧ x ≠ 0 then 0 else 1
def setSA (s : Us) (dev : Int) (x : Nat) : Us := if (0 ≤ dev ∧ dev < 8) ∧ x ≠ 0 then usRt s dev.toNat x else s
/-- is a place one for a ring -/
def ringOk (n a : Nat) : Bool := a % 4096 == 0 && decide (a + 4096 ≤ n * 4096)
def ringS (n : Nat) (s : Us) (a : Nat) : Us := if ringOk n a then usRg s a else s
theorem ring_has {n a : Nat} (h : a % 4096 = 0) : ringOk n a = hasR 0 n (a : Int) 4096 := by
  unfold ringOk hasR
  rw [show (a % 4096 == 0) = true from by simpa using h, Bool.true_and]
  exact decide_eq_decide.2 ⟨fun h => ⟨by decide, by omega, by omega, by omega⟩, fun h => by omega⟩
end
end Go.Proofs.YtonhlgfgbdiapaaGreat

/- The document's memory: Read. -/
namespace Go.Proofs.YtonhlgfgbdiapaaGreat
set_option linter.unusedVariables false
set_option linter.unusedSimpArgs false
open Go.RowKit
set_option maxRecDepth 100000
end Go.Proofs.YtonhlgfgbdiapaaGreat

/- The document: its memory's Read; blocked, Next. -/
namespace Go.Proofs.YtonhlgfgbdiapaaGreat
set_option linter.unusedVariables false
set_option linter.unusedSimpArgs false
open Go.RowKit
set_option maxRecDepth 100000

section
variable {own : Nat → Nat} {c d cm q p2 t2 n : Nat} {w : World} {s : Us} {ms : List To4} {m : Nat → Int}
end
end Go.Proofs.YtonhlgfgbdiapaaGreat

/- The document's IOMMU: Remap. -/
namespace Go.Proofs.YtonhlgfgbdiapaaGreat
set_option linter.unusedVariables false
set_option linter.unusedSimpArgs false
open Go.RowKit
set_option maxRecDepth 100000

section
variable {own : Nat → Nat} {c d q p2 t2 : Nat} {w : World} {s : Us} {ms : List To4}
end
end Go.Proofs.YtonhlgfgbdiapaaGreat

/- The document's IOMMU: Message. -/
namespace Go.Proofs.YtonhlgfgbdiapaaGreat
set_option linter.unusedVariables false
set_option linter.unusedSimpArgs false
open Go.RowKit
set_option maxRecDepth 100000

/-- where a message of an index goes, last said -/
def msStep (dev data : Int) (acc : Int × Int) (t : To4) : Int × Int := if t.d = dev ∧ t.i = data then (t.g, t.q) else acc
def msL (ms : List To4) (dev data : Int) : Int × Int := ms.foldl (msStep dev data) (0, 0)
/-- is a message one that goes somewhere -/
def msgOk (ms : List To4) (dev : Int) (a : Nat) (data : Int) : Bool := decide (0 ≤ dev ∧ dev < 8) && (a == 4276092928 && (msL ms dev data).1 != 0)
def msgV (ms : List To4) (dev : Int) (a : Nat) (data : Int) : Int × Int := if msgOk ms dev a data then msL ms dev data else (0, 0)
def msgS (s : Us) (ms : List To4) (dev : Int) (a : Nat) (data : Int) : Us := if msgOk ms dev a data then s else accSt s dev 5
def msgM (s : Us) (m : Nat → Int) (ms : List To4) (dev : Int) (a : Nat) (data : Int) : Nat → Int := if msgOk ms dev a data then m else accMt s m dev 5 a
section
variable {own : Nat → Nat} {c d cm q p2 t2 n : Nat} {w : World} {s : Us} {ms : List To4} {m : Nat → Int}
end
end Go.Proofs.YtonhlgfgbdiapaaGreat

/- The IOMMU: Set, Drop, Remap, Ring, Message, Evict, InvalidatePage, whatever is said. -/
namespace Go.Proofs.YtonhlgfgbdiapaaGreat
set_option linter.unusedVariables false
set_option linter.unusedSimpArgs false
open Go.RowKit
set_option maxRecDepth 100000

section
variable {own : Nat → Nat} {c cm ct cd p rp tp n r : Nat} {w : World} {s : Us} {m : Nat → Int} {l : List Tr}
theorem io_SetX (h : UsAt own c w p rp tp s) (dev : Int) (x : Nat) : Calls Tryz.prog 9 #[.pointer (some ⟨p, 0, none⟩), .int .i64 dev, .int .u64 (x : Int)] w fun e w' => e = .returned (.int .i64 (setRA dev x)) ∧ Step (· = c) own w own w' ∧ UsAt own c w' p rp tp (setSA s dev x) := by
  by_cases hg : (0 ≤ dev ∧ dev < 8) ∧ x ≠ 0
  · obtain ⟨k, rfl⟩ := Int.eq_ofNat_of_zero_le hg.1.1
    rw [show setRA (k : Int) x = 0 from if_pos hg, show setSA s (k : Int) x = usRt s k x from if_pos hg]
    exact io_Set h k x (by omega) hg.2
  · rw [show setRA dev x = 1 from if_neg hg, show setSA s dev x = s from if_neg hg]
    refine (io_Set_bad dev x (by omega) w).mono ?_
    rintro e w1 ⟨rfl, rfl⟩
    exact ⟨rfl, Step.refl _ _ _, h⟩
theorem io_RingX (hU : UsAt own c w p rp tp s) (hM : MemAt ramK own cm w rp 0 n m) (a : Nat) (ha : a < 18446744073709551616) :
    Calls Tryz.prog 8 #[.pointer (some ⟨p, 0, none⟩), .int .u64 (a : Int)] w fun e w' => e = .returned (.int .i64 (if ringOk n a then 0 else 1)) ∧ Step (· = c) own w own w' ∧ UsAt own c w' p rp tp (ringS n s a) := by
  cases hr : ringOk n a with
  | true =>
    obtain ⟨h1, h2⟩ : a % 4096 = 0 ∧ a + 4096 ≤ n * 4096 := by unfold ringOk at hr; simpa using hr
    rw [show ringS n s a = usRg s a from by unfold ringS; rw [hr]; rfl]
    exact io_Ring hU hM a h1 h2
  | false =>
    rw [show ringS n s a = s from by unfold ringS; rw [hr]; rfl]
    obtain ⟨c0, _⟩ := hU.rest
    by_cases hz : a % 4096 = 0
    · have hh := ram_hasC hM (a : Int) 4096 (by omega) (by omega) (by decide) (by decide)
      rw [← ring_has hz, hr] at hh
      have HH := Lib.hid hh
      have hz2 : (a : Int) % 4096 = 0 := by omega
      have HU := Lib.hid hU
      clear hU hM hh hr
      go_enter Tryz.func8, Tryz.ntmps8
      go_wp2_with fail
      ((with_reducible refine HH.out.mono ?_); rintro e wz ⟨rfl, q, rfl⟩)
      have hst : Step (fun _ => False) own w own (w.drewN q) := (Step.refl _ _ _).drewN q
      have HF := Lib.hid (And.intro (hst.mono (C' := (· = c)) (fun _ h => h.elim)) (HU.out.step hst (fun h => h)))
      clear HH HU hst
      go_wp2
      go_ret
      exact ⟨rfl, HF.out⟩
    · have hz2 : ((a : Int) % 4096 == 0) = false := by simp; omega
      have hz3 : ((a : Int) % 4096 != 0) = true := by simp; omega
      have HF := Lib.hid (And.intro (Step.refl (· = c) own w) hU)
      clear hU hM hr
      go_enter Tryz.func8, Tryz.ntmps8
      go_wp2
      go_ret
      exact ⟨rfl, HF.out⟩
/-- the places of both are the same -/
def MsRel (s : Us) (ms : List To4) : Prop := ∀ d k : Nat, d < 8 → msL ms d k = if k < 32 then (s.mg d k, s.mi d k) else (0, 0)
theorem MsRel.init : MsRel us0 [] := fun d k hd => by split <;> rfl
theorem MsRel.of_mg {s s' : Us} {ms : List To4} (h : MsRel s ms) (h1 : s'.mg = s.mg) (h2 : s'.mi = s.mi) : MsRel s' ms := by
  intro d k hd; rw [h1, h2]; exact h d k hd
set_option maxHeartbeats 1500000 in
theorem io_Msg_far (dev : Int) (hd : ¬ (0 ≤ dev ∧ dev < 8)) (a k : Int) (own : Nat → Nat) (w : World) :
    Calls Tryz.prog 78 #[.pointer (some ⟨p, 0, none⟩), .int .i64 dev, .int .u64 a, .int .u64 k] w fun e w' => e = .returned (.tuple #[.agg #[.int .i64 0, .int .i64 0], .bool false]) ∧ Step (fun _ => False) own w own w' := by
  have HT := Lib.hid (fun w => io_there dev w)
  have hde : decide (0 ≤ dev ∧ dev < 8) = false := decide_eq_false hd
  have HB := Lib.hid (fun w => io_blocked_no (p := p) dev hd 5 a w)
  have hB := Blk.new w 47 #[.int .i64 0, .int .i64 0]
  have z0 := hB.frozen 0
  have z1 := hB.frozen 1
  have x0 := hB.cell 0
  have x1 := hB.cell 1
  simp only [List.getElem?_toArray, List.getElem?_cons_zero, List.getElem?_cons_succ] at x0 x1
  have hl := hB.lt
  have HBk := Lib.hid hB
  have HS := Lib.hid (step_allocS own w (.cells #[.int .i64 0, .int .i64 0] 47))
  clear hB hd
  go_enter Tryz.func78, Tryz.ntmps78
  go_wp2_with fail
  ((with_reducible refine (HT.out _).mono ?_); rintro e wz ⟨rfl, rfl⟩)
  rw [hde]
  clear HT
  go_wp2_with fail
  ((with_reducible refine (HB.out _).mono ?_); rintro e wz ⟨rfl, rfl⟩)
  go_wp2
  refine bodyPost_ret (results_cell_tmp_row rfl _ _ w.heap.size 47 #[.int .i64 0, .int .i64 0] _ rfl HBk.out Tryz.underlying47 rfl (by kernel_rfl)) rfl ?_
  exact ⟨rfl, HS.out⟩
theorem io_MsgX (hU : UsAt own c w p rp tp s) (hM : MemAt ramK own cm w rp 0 n m) (hcm : c ≠ cm) (hok : UsOk n s) {ms : List To4} (hr : MsRel s ms) (dev : Int) (a k : Nat) (ha : a < 18446744073709551616) :
    Calls Tryz.prog 78 #[.pointer (some ⟨p, 0, none⟩), .int .i64 dev, .int .u64 (a : Int), .int .u64 (k : Int)] w fun e w' => e = .returned (.tuple #[.agg #[.int .i64 (msgV ms dev a k).1, .int .i64 (msgV ms dev a k).2], .bool (msgOk ms dev a k)]) ∧
      ∃ own', Step (fun x => x = c ∨ x = cm) own w own' w' ∧ UsAt own' c w' p rp tp (msgS s ms dev a k) ∧ MemAt ramK own' cm w' rp 0 n (msgM s m ms dev a k) := by
  by_cases hd : 0 ≤ dev ∧ dev < 8
  · obtain ⟨d, rfl⟩ := Int.eq_ofNat_of_zero_le hd.1
    have hd8 : d < 8 := by omega
    have hdd : decide (0 ≤ (d : Int) ∧ (d : Int) < 8) = true := decide_eq_true hd
    have hrel := hr d k hd8
    by_cases hg : a = 4276092928 ∧ k < 32 ∧ s.mg d k ≠ 0
    · obtain ⟨rfl, hk, hm⟩ := hg
      rw [if_pos hk] at hrel
      have hok1 : msgOk ms d 4276092928 k = true := by unfold msgOk; rw [hrel, hdd]; simpa using hm
      rw [hok1, show msgV ms d 4276092928 k = (s.mg d k, s.mi d k) from by unfold msgV; rw [hok1]; exact hrel, show msgS s ms d 4276092928 k = s from by unfold msgS; rw [hok1]; rfl, show msgM s m ms d 4276092928 k = m from by unfold msgM; rw [hok1]; rfl, show ((4276092928 : Nat) : Int) = 4276092928 from rfl]
      refine (io_Msg_good hU hM d k hd8 hk hm).mono ?_
      rintro e w1 ⟨rfl, own1, hS, hU1, hM1⟩
      exact ⟨rfl, own1, hS.mono (fun _ h => h.elim), hU1, hM1⟩
    · have hok1 : msgOk ms d a k = false := by
        unfold msgOk
        rw [hdd, hrel]
        by_cases h1 : a = 4276092928
        · by_cases h2 : k < 32
          · rw [if_pos h2]
            have h3 : s.mg d k = 0 := by
              by_cases h3 : s.mg d k = 0
              · exact h3
              · exact absurd ⟨h1, h2, h3⟩ hg
            simp [h3]
          · rw [if_neg h2]; simp
        · simp [h1]
      have e1 : accSt s (d : Int) 5 = recS s := by unfold accSt; rw [if_neg (by omega)]
      have e2 : accMt s m (d : Int) 5 a = recM s m d 5 a := by unfold accMt; rw [if_neg (by omega)]; rfl
      rw [hok1, show msgV ms d a k = (0, 0) from by unfold msgV; rw [hok1]; rfl, show msgS s ms d a k = recS s from by unfold msgS; rw [hok1]; exact e1, show msgM s m ms d a k = recM s m d 5 a from by unfold msgM; rw [hok1]; exact e2]
      exact io_Msg_bad hU hM hcm hok d a k hd8 ha (by
        by_cases h1 : a = 4276092928
        · by_cases h2 : k < 32
          · right; right
            by_cases h3 : s.mg d k = 0
            · exact h3
            · exact absurd ⟨h1, h2, h3⟩ hg
          · right; left; omega
        · left; exact h1)
  · have hok1 : msgOk ms dev a k = false := by unfold msgOk; rw [decide_eq_false hd]; rfl
    have e1 : accSt s dev 5 = s := by unfold accSt; rw [if_pos (.inr hd)]
    have e2 : accMt s m dev 5 a = m := by unfold accMt; rw [if_pos (.inr hd)]
    rw [hok1, show msgV ms dev a k = (0, 0) from by unfold msgV; rw [hok1]; rfl, show msgS s ms dev a k = s from by unfold msgS; rw [hok1]; exact e1, show msgM s m ms dev a k = m from by unfold msgM; rw [hok1]; exact e2]
    refine (io_Msg_far dev hd a k own w).mono ?_
    rintro e w1 ⟨rfl, hS⟩
    exact ⟨rfl, own, hS.mono (fun _ h => h.elim), hU.step hS (fun h => h), hM.step hS (fun h => h)⟩
end
end Go.Proofs.YtonhlgfgbdiapaaGreat

/- The document's IOMMU: Next. -/
namespace Go.Proofs.YtonhlgfgbdiapaaGreat
set_option linter.unusedVariables false
set_option linter.unusedSimpArgs false
open Go.RowKit
set_option maxRecDepth 100000

section
variable {own : Nat → Nat} {c d cm q p2 t2 n : Nat} {w : World} {s : Us} {ms : List To4} {m : Nat → Int}
end
end Go.Proofs.YtonhlgfgbdiapaaGreat

/- The document's TLB: Look, FlushPage, Evict. -/
namespace Go.Proofs.YtonhlgfgbdiapaaGreat
set_option linter.unusedVariables false
set_option linter.unusedSimpArgs false
open Go.RowKit
set_option maxRecDepth 100000

section
variable {own own' : Nat → Nat} {c d p room : Nat} {w w' : World} {l : List Tr}
end
/-- one entry a page -/
def UniqT (l : List Tr) : Prop := l.Pairwise (fun x y => ¬ (x.v = y.v ∧ x.p = y.p))
theorem UniqT.flushP {l : List Tr} (h : UniqT l) (v p : Int) : UniqT (flushP l v p) := h.sublist (List.filter_sublist)
theorem UniqT.put {l : List Tr} (h : UniqT l) (room : Nat) (t : Tr) : UniqT (putT room l t) := by
  have hf := h.flushP t.v t.p
  have hn : ∀ x ∈ Go.Proofs.YtonhlgfgbdiapaaGreat.flushP l t.v t.p, ¬ (x.v = t.v ∧ x.p = t.p) := by
    intro x hx
    have := (List.mem_filter.1 hx).2
    simp only [bne, Bool.or_eq_true, Bool.not_eq_true', beq_eq_false_iff_ne, ne_eq] at this
    rintro ⟨e1, e2⟩
    rcases this with h | h
    · exact h e1
    · exact h e2
  unfold putT
  unfold UniqT
  rw [List.pairwise_append]
  refine ⟨?_, List.pairwise_singleton _ _, ?_⟩
  · split
    · exact hf.sublist (List.drop_sublist _ _)
    · exact hf
  · intro x hx y hy
    rw [List.mem_singleton.1 hy]
    refine hn x ?_
    split at hx
    · exact List.mem_of_mem_drop hx
    · exact hx
end Go.Proofs.YtonhlgfgbdiapaaGreat

/- The document's TLB: Evict. -/
namespace Go.Proofs.YtonhlgfgbdiapaaGreat
set_option linter.unusedVariables false
set_option linter.unusedSimpArgs false
open Go.RowKit
set_option maxRecDepth 100000

section
variable {own own' : Nat → Nat} {c d p room : Nat} {w w' : World} {l : List Tr}
end
end Go.Proofs.YtonhlgfgbdiapaaGreat

/- The document's page tables (citadelref04): wrong, number, misplaced, lets, put. -/
namespace Go.Proofs.YtonhlgfgbdiapaaGreat
set_option linter.unusedVariables false
set_option linter.unusedSimpArgs false
open Go.RowKit
set_option maxRecDepth 100000

end Go.Proofs.YtonhlgfgbdiapaaGreat

/- The document's page tables: lets, put, Guest. -/
namespace Go.Proofs.YtonhlgfgbdiapaaGreat
set_option linter.unusedVariables false
set_option linter.unusedSimpArgs false
open Go.RowKit
set_option maxRecDepth 100000

end Go.Proofs.YtonhlgfgbdiapaaGreat

/- The document's page tables: Guest. -/
namespace Go.Proofs.YtonhlgfgbdiapaaGreat
set_option linter.unusedVariables false
set_option linter.unusedSimpArgs false
open Go.RowKit
set_option maxRecDepth 100000

end Go.Proofs.YtonhlgfgbdiapaaGreat

/- The document's IOMMU: Access. -/
namespace Go.Proofs.YtonhlgfgbdiapaaGreat
set_option linter.unusedVariables false
set_option linter.unusedSimpArgs false
open Go.RowKit
set_option maxRecDepth 100000

section
variable {own : Nat → Nat} {c d cm ct cd q p2 t2 n room : Nat} {w : World} {s : Us} {ms : List To4} {m : Nat → Int} {l : List Tr}
end
end Go.Proofs.YtonhlgfgbdiapaaGreat

/- IommuPlays: what is carried along. -/
namespace Go.Proofs.YtonhlgfgbdiapaaGreat
set_option linter.unusedVariables false
set_option linter.unusedSimpArgs false
open Go.RowKit
set_option maxRecDepth 100000

/-- the program's side; the document's -/
structure PA (own : Nat → Nat) (w : World) (p rp tp r : Nat) (s : Us) (m : Nat → Int) (l : List Tr) : Prop where
  u : UsAt own 1 w p rp tp s
  mm : MemAt ramK own 2 w rp 0 8 m
  t : TlbAt own 3 4 w tp r l
structure PI (s : Us) (l : List Tr) (ms : List To4) : Prop where
  ok : UsOk 8 s
  el : EntsOk l
  uq : UniqT l
  rel : MsRel s ms
section
variable {own own' : Nat → Nat} {w w' : World} {p q rp tp p2 t2 r ob xb : Nat} {s : Us} {m : Nat → Int} {l : List Tr} {ms : List To4} {xk xd xs xg xq : Int} {xa xv : Nat} {xw : Bool}
theorem PA.step {C : Nat → Prop} (h : PA own w p rp tp r s m l) (hS : Step C own w own' w') (hC : ∀ x, C x → x = 0 ∨ 4 < x) : PA own' w' p rp tp r s m l :=
  ⟨h.u.step hS (fun h => by have := hC _ h; omega), h.mm.step hS (fun h => by have := hC _ h; omega), h.t.step hS (fun h => by have := hC _ h; omega) (fun h => by have := hC _ h; omega)⟩
end
theorem accL_uniq {n : Nat} {m : Nat → Int} {root room : Nat} {l : List Tr} {d a size acc : Nat} (h : UniqT l) : UniqT (accL n m root room l d a size acc).2.2 := by
  unfold accL
  split
  · split
    · split <;> exact h
    · split
      · exact h
      · split <;> exact h.put _ _
  · split
    · exact h
    · split <;> exact h.put _ _
theorem accA_uniq {n : Nat} {m : Nat → Int} {s : Us} {room : Nat} {l : List Tr} (h : UniqT l) (dev : Int) (a : Nat) (sz : Int) (wr : Bool) : UniqT (accA n m s room l dev a sz wr).2.2 := by
  unfold accA
  split
  · exact h
  · split
    · exact h
    · exact accL_uniq h
theorem recS_mi (s : Us) : (recS s).mi = s.mi := by unfold recS; split <;> rfl
theorem PI.accSt {s : Us} {l : List Tr} {ms : List To4} (h : PI s l ms) (dev : Int) (k : Nat) : PI (accSt s dev k) l ms := by
  unfold Go.Proofs.YtonhlgfgbdiapaaGreat.accSt
  split
  · exact h
  · exact ⟨h.ok.kRec, h.el, h.uq, h.rel.of_mg (recS_mg s) (recS_mi s)⟩
theorem PI.msgS {s : Us} {l : List Tr} {ms : List To4} (h : PI s l ms) (dev : Int) (a : Nat) (k : Int) : PI (msgS s ms dev a k) l ms := by
  unfold Go.Proofs.YtonhlgfgbdiapaaGreat.msgS
  split
  · exact h
  · exact h.accSt dev 5
theorem PI.set {s : Us} {l : List Tr} {ms : List To4} (h : PI s l ms) (dev : Int) (x : Nat) (hx : x < 18446744073709551616) : PI (setSA s dev x) l ms := by
  unfold setSA
  split
  · exact ⟨h.ok.kRt _ x hx, h.el, h.uq, h.rel.of_mg rfl rfl⟩
  · exact h
theorem PI.ring {s : Us} {l : List Tr} {ms : List To4} (h : PI s l ms) (a : Nat) (ha : a < 18446744073709551616) : PI (ringS 8 s a) l ms := by
  unfold ringS
  split
  · rename_i hr
    obtain ⟨h1, h2⟩ : a % 4096 = 0 ∧ a + 4096 ≤ 8 * 4096 := by unfold ringOk at hr; simpa using hr
    exact ⟨h.ok.kRg a ha h1 h2, h.el, h.uq, h.rel.of_mg rfl rfl⟩
  · exact h
theorem PI.next {s : Us} {l : List Tr} {ms : List To4} (h : PI s l ms) : PI (nextS s) l ms := by
  refine ⟨h.ok.kNext, h.el, h.uq, h.rel.of_mg ?_ ?_⟩ <;> (unfold nextS; split <;> rfl)
end Go.Proofs.YtonhlgfgbdiapaaGreat

/- The engine, plain: its registers, what a write and a step do. -/
namespace Go.Proofs.YtonhlgfgbdiapaaGreat
set_option linter.unusedVariables false
set_option linter.unusedSimpArgs false
open Go.RowKit
/-- registers (by their offset; control and status aside), state, how much was copied -/
structure Eg where
  rg : Nat → Nat
  st : Nat
  cp : Nat
def eg0 : Eg := ⟨fun _ => 0, 0, 0⟩
def fitsE (off : Nat) (size : Int) : Bool := (size == 4 || size == 8) && ((off : Int) % size == 0) && decide (off < 56)
/-- what a register shows -/
def regE (s : Eg) (k : Nat) : Nat := if k = 24 then 0 else if k = 32 then s.st else s.rg k
def readE (s : Eg) (off : Nat) (size : Int) : Nat := if fitsE off size then (if size = 8 then regE s (off / 8 * 8) else regE s (off / 8 * 8) / 2 ^ (8 * (off % 8)) % 4294967296) else 0
def badG (s : Eg) : Bool := decide (s.rg 16 = 0) || decide (4096 < s.rg 16) || decide (s.rg 0 % 8 ≠ 0) || decide (s.rg 8 % 8 ≠ 0) || decide (s.rg 16 % 8 ≠ 0)
def cmdE (s : Eg) (v : Nat) : Eg :=
  if s.st = 1 then (if v / 2 % 2 = 1 then { s with st := 0 } else s)
  else if v % 2 = 1 then { s with st := if badG s then 3 else 1, cp := 0 }
  else if v / 2 % 2 = 1 then { s with st := 0 } else s
def setE (old off : Nat) (size : Int) (v : Nat) : Nat := if size = 8 then v else if off % 8 = 0 then old / 4294967296 * 4294967296 + v % 4294967296 else old % 4294967296 + v % 4294967296 * 4294967296
def putE (s : Eg) (k v : Nat) : Eg := { s with rg := fun x => if x = k then v else s.rg x }
def writeE (s : Eg) (off : Nat) (size : Int) (v : Nat) : Eg :=
  if fitsE off size then
    (if off / 8 * 8 = 24 then (if off = 24 then cmdE s v else s)
     else if off / 8 * 8 = 32 then s
     else if s.st = 1 then s else putE s (off / 8 * 8) (setE (s.rg (off / 8 * 8)) off size v))
  else s
structure EgOk (s : Eg) : Prop where
  rg : ∀ k, s.rg k < 18446744073709551616
  st : s.st < 4
  cp : s.cp < 18446744073709551616
  run : s.st = 1 → s.cp % 8 = 0 ∧ s.cp < s.rg 16 ∧ s.rg 16 ≤ 4096 ∧ s.rg 0 % 8 = 0 ∧ s.rg 8 % 8 = 0 ∧ s.rg 16 % 8 = 0
theorem EgOk.init : EgOk eg0 := ⟨fun k => by show 0 < _; decide, by decide, by decide, fun h => by cases h⟩
theorem setE_lt {old off : Nat} {size : Int} {v : Nat} (ho : old < 18446744073709551616) (hv : v < 18446744073709551616) : setE old off size v < 18446744073709551616 := by
  unfold setE; split
  · exact hv
  · split <;> omega
theorem EgOk.cmd {s : Eg} (h : EgOk s) (v : Nat) : EgOk (cmdE s v) := by
  unfold cmdE
  split
  · split
    · exact ⟨h.rg, by simp, h.cp, fun h => by simp at h⟩
    · exact h
  · split
    · cases hb : badG s with
      | true => exact ⟨h.rg, by simp, by show 0 < _; decide, fun h => by simp at h⟩
      | false =>
        refine ⟨h.rg, by simp, by show 0 < _; decide, fun _ => ?_⟩
        unfold badG at hb
        simp at hb
        show 0 % 8 = 0 ∧ 0 < s.rg 16 ∧ s.rg 16 ≤ 4096 ∧ s.rg 0 % 8 = 0 ∧ s.rg 8 % 8 = 0 ∧ s.rg 16 % 8 = 0
        omega
    · split
      · exact ⟨h.rg, by simp, h.cp, fun h => by simp at h⟩
      · exact h
theorem EgOk.put {s : Eg} (h : EgOk s) (hs : s.st ≠ 1) (k v : Nat) (hv : v < 18446744073709551616) : EgOk (putE s k v) :=
  ⟨fun x => by show (if x = k then v else s.rg x) < _; split; exact hv; exact h.rg x, h.st, h.cp, fun e => absurd e hs⟩
theorem EgOk.write {s : Eg} (h : EgOk s) (off : Nat) (size : Int) (v : Nat) (hv : v < 18446744073709551616) : EgOk (writeE s off size v) := by
  unfold writeE
  split
  · split
    · split
      · exact h.cmd v
      · exact h
    · split
      · exact h
      · split
        · exact h
        · rename_i hs
          exact h.put hs _ _ (setE_lt (h.rg _) hv)
  · exact h
/-- a message of a flat engine -/
def msgF (a d : Nat) : Int × Int × Bool := if a = 4276092928 ∧ d ≤ 15 then (1, 16 + d, true) else (0, 0, false)
def msgE (s : Eg) : Int × Int × Bool := if s.rg 40 = 0 then (0, 0, false) else msgF (s.rg 40) (s.rg 48)
/-- a step of a flat engine over a memory of n frames from base on: does it find both places -/
def goF (base n : Nat) (s : Eg) : Bool := hasR base n (((s.rg 0 + s.cp) % 18446744073709551616 : Nat) : Int) 8 && hasR base n (((s.rg 8 + s.cp) % 18446744073709551616 : Nat) : Int) 8
def stepS (base n : Nat) (s : Eg) : Eg :=
  if s.st = 1 then (if goF base n s then (if s.cp + 8 < s.rg 16 then { s with cp := s.cp + 8 } else { s with st := 2, cp := s.cp + 8 }) else { s with st := 3 }) else s
def stepM (base n : Nat) (s : Eg) (m : Nat → Int) : Nat → Int :=
  if s.st = 1 ∧ goF base n s = true then wrR base n m (((s.rg 8 + s.cp) % 18446744073709551616 : Nat) : Int) 8 (rdR base n m (((s.rg 0 + s.cp) % 18446744073709551616 : Nat) : Int) 8).1 else m
def stepR (base n : Nat) (s : Eg) : Int × Int × Bool := if s.st = 1 ∧ (stepS base n s).st ≠ 1 then msgE s else (0, 0, false)
theorem EgOk.step {s : Eg} (h : EgOk s) (base n : Nat) : EgOk (stepS base n s) := by
  unfold stepS
  split
  · rename_i hs
    obtain ⟨h1, h2, h3, h4, h5, h6⟩ := h.run hs
    split
    · split
      · rename_i hl
        exact ⟨h.rg, h.st, by show s.cp + 8 < _; omega, fun _ => ⟨by show (s.cp + 8) % 8 = 0; omega, hl, h3, h4, h5, h6⟩⟩
      · exact ⟨h.rg, by simp, by show s.cp + 8 < _; omega, fun h => by simp at h⟩
    · exact ⟨h.rg, by simp, h.cp, fun h => by simp at h⟩
  · exact h
end Go.Proofs.YtonhlgfgbdiapaaGreat

/- Maps: a block that is a map, its entries in order. -/
namespace Go.Proofs.YtonhlgfgbdiapaaGreat
set_option linter.unusedVariables false
set_option linter.unusedSimpArgs false
open Go.RowKit Go.Maps Go.ChangeMaps
section
variable {α : Type}
/-- block b is the map of these entries -/
def MapB (P : Program) (k : TypeId) (enc : α → Value) (w : World) (b : Nat) (kv : List (α × Value)) : Prop :=
  ∃ es clock, w.heap[b]? = some (.map es clock) ∧ es.toList.map (fun x => (x.key, x.val)) = kv.map (fun p => (enc p.1, p.2)) ∧ (∀ p ∈ kv, ∃ l, keyOf P k (enc p.1) = some l) ∧ (kv.map Prod.fst).Nodup
variable {P : Program} {k t e : TypeId} {enc : α → Value} {w w' : World} {b : Nat} {kv : List (α × Value)}
theorem MapB.made (w : World) (P : Program) (k : TypeId) (enc : α → Value) : MapB P k enc (w.alloc (.map #[] 0)) w.heap.size [] :=
  ⟨#[], 0, (MapKept.heap_alloc w _).1, rfl, fun p hp => (by cases hp), List.nodup_nil⟩
theorem MapB.lt (h : MapB P k enc w b kv) : b < w.heap.size := by
  obtain ⟨es, clock, hb, _⟩ := h
  exact (Array.getElem?_eq_some_iff.1 hb).1
theorem MapB.upd {S : Nat → Prop} (h : MapB P k enc w b kv) (hU : Upd S w w') (hS : ¬ S b) : MapB P k enc w' b kv := by
  have hl := h.lt
  obtain ⟨es, clock, hb, r⟩ := h
  exact ⟨es, clock, (hU.block b hl hS).trans hb, r⟩
theorem MapB.step {C : Nat → Prop} {own own' : Nat → Nat} {d : Nat} (h : MapB P k enc w b kv) (ho : own b = d) (hS : Step C own w own' w') (hd : ¬ C d) : MapB P k enc w' b kv ∧ own' b = d :=
  ⟨h.upd hS.upd (by rw [ho]; exact hd), (hS.old b h.lt).trans ho⟩
theorem MapB.find (h : MapB P k enc w b kv) (K : Keyed P k) (hinj : ∀ x y, enc x = enc y → x = y) {a : α} {kl : Lit} (hkey : keyOf P k (enc a) = some kl) :
    ∃ es clock, w.heap[b]? = some (.map es clock) ∧ es.toList.map (fun x => (x.key, x.val)) = kv.map (fun p => (enc p.1, p.2)) ∧
    (((Instr.findKey k (enc a) es.toList).run P w = .ok none w ∧ ∀ p ∈ kv, p.1 ≠ a) ∨ ∃ j e0, (Instr.findKey k (enc a) es.toList).run P w = .ok (some (j, e0.val)) w ∧ es.toList[j]? = some e0 ∧ e0.key = enc a ∧ kv[j]? = some (a, e0.val)) := by
  obtain ⟨es, clock, hb, hes, hk, hn⟩ := h
  refine ⟨es, clock, hb, hes, ?_⟩
  have hks : ∀ x ∈ es.toList, ∃ l, keyOf P k x.key = some l := fun x hx => by
    have hm : (x.key, x.val) ∈ kv.map (fun p => (enc p.1, p.2)) := by rw [← hes]; exact List.mem_map.2 ⟨x, hx, rfl⟩
    obtain ⟨p, hp, e⟩ := List.mem_map.1 hm
    obtain ⟨l, hl⟩ := hk p hp
    refine ⟨l, ?_⟩
    have e1 : enc p.1 = x.key := congrArg Prod.fst e
    rw [← e1]; exact hl
  rcases K.find w hkey es.toList hks with ⟨h1, h2⟩ | ⟨j, e0, h1, h2, h3⟩
  · refine .inl ⟨h1, fun p hp e => ?_⟩
    have hm : (enc p.1, p.2) ∈ es.toList.map (fun x => (x.key, x.val)) := by rw [hes]; exact List.mem_map.2 ⟨p, hp, rfl⟩
    obtain ⟨x, hx, ex⟩ := List.mem_map.1 hm
    have e1 : x.key = enc p.1 := congrArg Prod.fst ex
    exact h2 x hx (by rw [e1, e])
  · refine .inr ⟨j, e0, h1, h2, h3, ?_⟩
    have hj : (kv.map (fun p => (enc p.1, p.2)))[j]? = some (e0.key, e0.val) := by rw [← hes, List.getElem?_map, h2]; rfl
    rw [List.getElem?_map] at hj
    obtain ⟨p, hp, ep⟩ := Option.map_eq_some_iff.1 hj
    have e1 : enc p.1 = enc a := (congrArg Prod.fst ep).trans h3
    have e2 : p.2 = e0.val := congrArg Prod.snd ep
    rw [hp]
    obtain ⟨p1, p2⟩ := p
    simp only [] at e1 e2
    rw [hinj _ _ e1, e2]
end
section
variable {α : Type} [DecidableEq α]
def kvGet : List (α × Value) → α → Option Value
  | [], _ => none
  | p :: r, a => if p.1 = a then some p.2 else kvGet r a
def kvPut : List (α × Value) → α → Value → List (α × Value)
  | [], a, v => [(a, v)]
  | p :: r, a, v => if p.1 = a then (a, v) :: r else p :: kvPut r a v
theorem kvGet_none {kv : List (α × Value)} {a : α} (h : ∀ p ∈ kv, p.1 ≠ a) : kvGet kv a = none := by
  induction kv with
  | nil => rfl
  | cons p r ih => rw [kvGet, if_neg (h p (List.mem_cons_self ..))]; exact ih (fun q hq => h q (List.mem_cons_of_mem _ hq))
theorem kvPut_none {kv : List (α × Value)} {a : α} (h : ∀ p ∈ kv, p.1 ≠ a) (v : Value) : kvPut kv a v = kv ++ [(a, v)] := by
  induction kv with
  | nil => rfl
  | cons p r ih => rw [kvPut, if_neg (h p (List.mem_cons_self ..)), ih (fun q hq => h q (List.mem_cons_of_mem _ hq))]; rfl
theorem kvGet_at {kv : List (α × Value)} (hn : (kv.map Prod.fst).Nodup) : ∀ {j : Nat} {a : α} {v : Value}, kv[j]? = some (a, v) → kvGet kv a = some v := by
  induction kv with
  | nil => intro j a v h; simp at h
  | cons p r ih =>
    intro j a v h
    rw [List.map_cons, List.nodup_cons] at hn
    cases j with
    | zero => rw [List.getElem?_cons_zero] at h; cases h; rw [kvGet, if_pos rfl]
    | succ j =>
      rw [List.getElem?_cons_succ] at h
      have hm : a ∈ r.map Prod.fst := List.mem_map.2 ⟨_, List.mem_of_getElem? h, rfl⟩
      rw [kvGet, if_neg (fun e => hn.1 (by rw [e]; exact hm))]
      exact ih hn.2 h
theorem kvPut_at {kv : List (α × Value)} (hn : (kv.map Prod.fst).Nodup) : ∀ {j : Nat} {a : α} {v0 : Value}, kv[j]? = some (a, v0) → ∀ v, kvPut kv a v = kv.set j (a, v) := by
  induction kv with
  | nil => intro j a v h; simp at h
  | cons p r ih =>
    intro j a v0 h v
    rw [List.map_cons, List.nodup_cons] at hn
    cases j with
    | zero => rw [List.getElem?_cons_zero] at h; cases h; rw [kvPut, if_pos rfl]; rfl
    | succ j =>
      rw [List.getElem?_cons_succ] at h
      have hm : a ∈ r.map Prod.fst := List.mem_map.2 ⟨_, List.mem_of_getElem? h, rfl⟩
      rw [kvPut, if_neg (fun e => hn.1 (by rw [e]; exact hm)), ih hn.2 h v]
      rfl
theorem kvPut_keys {kv : List (α × Value)} {a : α} {v : Value} {p : α × Value} (h : p ∈ kvPut kv a v) : p.1 = a ∨ p ∈ kv := by
  induction kv with
  | nil => rw [kvPut, List.mem_singleton] at h; exact .inl (by rw [h])
  | cons q r ih =>
    rw [kvPut] at h
    split at h
    · rcases List.mem_cons.1 h with rfl | h
      · exact .inl rfl
      · exact .inr (List.mem_cons_of_mem _ h)
    · rcases List.mem_cons.1 h with rfl | h
      · exact .inr (List.mem_cons_self ..)
      · rcases ih h with h | h
        · exact .inl h
        · exact .inr (List.mem_cons_of_mem _ h)
theorem kvPut_nodup {kv : List (α × Value)} {a : α} {v : Value} (hn : (kv.map Prod.fst).Nodup) : ((kvPut kv a v).map Prod.fst).Nodup := by
  induction kv with
  | nil => simp [kvPut]
  | cons q r ih =>
    rw [List.map_cons, List.nodup_cons] at hn
    rw [kvPut]
    split
    · rename_i he
      rw [List.map_cons, List.nodup_cons]
      exact ⟨by show a ∉ _; rw [← he]; exact hn.1, hn.2⟩
    · rename_i he
      rw [List.map_cons, List.nodup_cons]
      refine ⟨fun hm => ?_, ih hn.2⟩
      obtain ⟨p, hp, e⟩ := List.mem_map.1 hm
      rcases kvPut_keys hp with h | h
      · exact he (by rw [← e, h])
      · exact hn.1 (List.mem_map.2 ⟨p, h, e⟩)
theorem kvGet_put {kv : List (α × Value)} {a x : α} {v : Value} : kvGet (kvPut kv a v) x = if x = a then some v else kvGet kv x := by
  induction kv with
  | nil =>
    show (if a = x then some v else none) = if x = a then some v else none
    by_cases h : x = a
    · rw [if_pos h.symm, if_pos h]
    · rw [if_neg (fun e => h e.symm), if_neg h]
  | cons q r ih =>
    rw [kvPut]
    split
    · rename_i he
      rw [kvGet, kvGet]
      by_cases h : x = a
      · rw [if_pos h.symm, if_pos h]
      · rw [if_neg (fun e => h e.symm), if_neg h, if_neg (by rw [he]; exact fun e => h e.symm)]
    · rename_i he
      rw [kvGet, kvGet, ih]
      by_cases h : x = a
      · rw [if_neg (by rw [h]; exact he), if_pos h, if_pos h]
      · rw [if_neg h, if_neg h]
variable {P : Program} {k t e : TypeId} {enc : α → Value} {w w' : World} {b : Nat} {kv : List (α × Value)}
/-- 'm[k]', 'v, ok := m[k]' -/
theorem MapB.look (h : MapB P k enc w b kv) (K : Keyed P k) (hinj : ∀ x y, enc x = enc y → x = y) (ht : P.underlying t = some (.map k e)) {z : Value} (hz : (zeroValue e).run P w = .ok z w) {a : α} {kl : Lit} (hkey : keyOf P k (enc a) = some kl) (c : Bool) :
    (Instr.lookup t (.map (some b)) (enc a) c).run P w = .ok (if c then .tuple #[(kvGet kv a).getD z, .bool (kvGet kv a).isSome] else (kvGet kv a).getD z) w := by
  have hn : (kv.map Prod.fst).Nodup := by obtain ⟨_, _, _, _, _, hn⟩ := h; exact hn
  obtain ⟨es, clock, hb, hes, hf⟩ := h.find K hinj hkey
  rcases hf with ⟨h1, h2⟩ | ⟨j, e0, h1, h2, h3, h4⟩
  · rw [kvGet_none h2]
    simp [Instr.lookup, run_underlying ht, MapKept.run_getObj_map hb, K.check w _ hkey, h1, hz, Result.andThen]
  · rw [kvGet_at hn h4]
    simp [Instr.lookup, run_underlying ht, MapKept.run_getObj_map hb, K.check w _ hkey, h1, Result.andThen]
/-- 'm[k] = v' -/
theorem MapB.store (h : MapB P k enc w b kv) (K : Keyed P k) (hinj : ∀ x y, enc x = enc y → x = y) (ht : P.underlying t = some (.map k e)) {a : α} {kl : Lit} (hkey : keyOf P k (enc a) = some kl) (v : Value) :
    ∃ w', (Instr.mapUpdate t (.map (some b)) (enc a) v).run P w = .ok () w' ∧ MapB P k enc w' b (kvPut kv a v) ∧ Upd (· = b) w w' := by
  have h0 := h
  obtain ⟨_, _, _, _, hk, hn⟩ := h0
  obtain ⟨es, clock, hb, hes, hf⟩ := h.find K hinj hkey
  have hk' : ∀ p ∈ kvPut kv a v, ∃ l, keyOf P k (enc p.1) = some l := fun p hp => by
    rcases kvPut_keys hp with e1 | hp
    · rw [e1]; exact ⟨_, hkey⟩
    · exact hk p hp
  have hU : ∀ es' clock', Upd (· = b) w (setBlock w b (.map es' clock')) := fun es' clock' => ⟨rfl, rfl, rfl, by simp [setBlock], fun i _ hi => heap_setBlock_other hb _ hi⟩
  rcases hf with ⟨h1, h2⟩ | ⟨j, e0, h1, h2, h3, h4⟩
  · refine ⟨setBlock w b (.map (es.push ⟨enc a, v, clock⟩) (clock + 1)), ?_, ⟨_, _, heap_setBlock_same hb _, ?_, hk', kvPut_nodup hn⟩, hU _ _⟩
    · simp [Instr.mapUpdate, run_underlying ht, MapKept.run_getObj_map hb, K.check w false hkey, h1, MapKept.run_setObj_map _ hb, Result.andThen, setBlock]
    · rw [kvPut_none h2, List.map_append, ← hes]; simp
  · have hj : es[j]? = some e0 := by simpa using h2
    refine ⟨setBlock w b (.map (es.modify j (fun e' => { e' with key := enc a, val := v })) clock), ?_, ⟨_, _, heap_setBlock_same hb _, ?_, hk', kvPut_nodup hn⟩, hU _ _⟩
    · simp [Instr.mapUpdate, run_underlying ht, MapKept.run_getObj_map hb, K.check w false hkey, h1, hj, h3, K.stays w hkey, MapKept.run_setObj_map _ hb, Result.andThen, setBlock]
    · rw [Array.toList_modify, modify_eq_set _ _ _ _ h2, kvPut_at hn h4, List.map_set, List.map_set, ← hes]
theorem wpList_storeB {ops : Array Oper} {rest : List Oper} {o : Oper} {act : Act} {Q : Exit → Act → World → Prop} (hg : o.guard = none) (m x v : Operand) (t : TypeId) (hop : o.op = Op.mapUpdate t m x v)
    (h : MapB P k enc w b kv) (K : Keyed P k) (hinj : ∀ x y, enc x = enc y → x = y) (ht : P.underlying t = some (.map k e)) (hm : act.eval m = .map (some b)) {a : α} {kl : Lit} (hx : act.eval x = enc a) (hkey : keyOf P k (enc a) = some kl) (val : Value) (hv : act.eval v = val)
    (hK : ∀ w', MapB P k enc w' b (kvPut kv a val) → Upd (· = b) w w' → wpList P ops Q rest (act.put o.dst undef) w') : wpList P ops Q (o :: rest) act w := by
  refine wpList_plain hg fun K' hK' => ?_
  obtain ⟨w', hrun, r1, r2⟩ := h.store K hinj ht hkey val
  unfold Oper.wp
  simp [execOp, hop, hm, hx, hv, hrun, Result.andThen]
  exact hK' _ _ (hK w' r1 r2)
theorem wpList_lookB {ops : Array Oper} {rest : List Oper} {o : Oper} {act : Act} {Q : Exit → Act → World → Prop} (hg : o.guard = none) (m x : Operand) (t : TypeId) (c : Bool) (hop : o.op = Op.lookup t m x c)
    (h : MapB P k enc w b kv) (K : Keyed P k) (hinj : ∀ x y, enc x = enc y → x = y) (ht : P.underlying t = some (.map k e)) {z : Value} (hz : (zeroValue e).run P w = .ok z w) (hm : act.eval m = .map (some b)) {a : α} {kl : Lit} (hx : act.eval x = enc a) (hkey : keyOf P k (enc a) = some kl) (val : Value)
    (hval : (if c then .tuple #[(kvGet kv a).getD z, .bool (kvGet kv a).isSome] else (kvGet kv a).getD z) = val)
    (hK : wpList P ops Q rest (act.put o.dst val) w) : wpList P ops Q (o :: rest) act w := by
  refine wpList_plain hg fun K' hK' => ?_
  have hrun := h.look K hinj ht hz hkey c
  rw [hval] at hrun
  unfold Oper.wp
  simp [execOp, hop, hm, hx, hrun, Result.andThen]
  exact hK' _ _ hK
end
end Go.Proofs.YtonhlgfgbdiapaaGreat

/- The engine: its cells; what tells its registers. -/
namespace Go.Proofs.YtonhlgfgbdiapaaGreat
set_option linter.unusedVariables false
set_option linter.unusedSimpArgs false
open Go.RowKit Go.Maps
set_option maxRecDepth 100000

def encU (k : Nat) : Value := .int .u64 (k : Int)
theorem encU_inj : ∀ x y, encU x = encU y → x = y := by intro x y h; unfold encU at h; injection h with _ h; omega
theorem keyU : Keyed Tryz.prog 23 := int_keyed Tryz.underlying23
theorem keyU_mk (k : Nat) (hk : k < 18446744073709551616) : keyOf Tryz.prog 23 (encU k) = some (.int .u64 (k : Int)) :=
  keyOf_int_mk Tryz.underlying23 (by simp [Lit.wf, IntKind.min, IntKind.max, IntKind.signed, IntKind.bits]; omega)
theorem zeroU (w : World) : (zeroValue 23).run Tryz.prog w = .ok (.int .u64 0) w := by kernel_rfl
/-- the registers' map -/
def RegAt (own : Nat → Nat) (c : Nat) (w : World) (rb : Nat) (rg : Nat → Nat) : Prop :=
  own rb = c ∧ ∃ kv : List (Nat × Value), MapB Tryz.prog 23 encU w rb kv ∧ ∀ k, (kvGet kv k).getD (.int .u64 0) = .int .u64 (rg k : Int)
/-- what tells the registers, when it was made -/
def bmE (f e : Nat) : Value := .func (.func f) #[.pointer (some ⟨e, 0, none⟩)] #[]
def rdsL (e : Nat) : List (Nat × Value) := [(0, bmE 38 e), (8, bmE 39 e), (16, bmE 41 e), (24, bmE 62 e), (32, bmE 63 e), (40, bmE 42 e), (48, bmE 43 e)]
def egC (mp : Nat) (way : Value) (rb st cp : Nat) (dn : Int) (rd : Value) : Array Value := #[.pointer (some ⟨mp, 0, none⟩), way, .map (some rb), .int .u64 (st : Int), .int .u64 (cp : Int), .int .u32 dn, .int .i32 0, .int .u32 0, rd]
/-- its reads: not made yet, or made -/
def RdsAt (own : Nat → Nat) (c : Nat) (w : World) (e rb : Nat) (dn : Int) (rd : Value) : Prop :=
  (dn = 0 ∧ rd = .map none) ∨ (dn = 1 ∧ ∃ fb, rd = .map (some fb) ∧ fb ≠ rb ∧ own fb = c ∧ MapB Tryz.prog 23 encU w fb (rdsL e))
def EngAt (own : Nat → Nat) (c : Nat) (w : World) (e mp : Nat) (way : Value) (s : Eg) : Prop :=
  ∃ rb dn rd, Blk w e 123 (egC mp way rb s.st s.cp dn rd) ∧ own e = c ∧ RegAt own c w rb s.rg ∧ RdsAt own c w e rb dn rd
section
variable {own own' : Nat → Nat} {c e mp rb b : Nat} {way rd : Value} {w w' : World} {s s' : Eg} {rg : Nat → Nat} {dn : Int}
theorem Blk.ne_map {ty : TypeId} {cs : Array Value} {kv : List (Nat × Value)} (h : Blk w e ty cs) (hm : MapB Tryz.prog 23 encU w b kv) : b ≠ e := by
  rintro rfl
  obtain ⟨es, clock, hb, _⟩ := hm
  unfold Blk at h
  rw [h] at hb
  cases hb
theorem RegAt.step {C : Nat → Prop} (h : RegAt own c w rb rg) (hS : Step C own w own' w') (hc : ¬ C c) : RegAt own' c w' rb rg := by
  obtain ⟨ho, kv, hm, hk⟩ := h
  obtain ⟨h1, h2⟩ := hm.step ho hS hc
  exact ⟨h2, kv, h1, hk⟩
theorem RdsAt.step {C : Nat → Prop} (h : RdsAt own c w e rb dn rd) (hS : Step C own w own' w') (hc : ¬ C c) : RdsAt own' c w' e rb dn rd := by
  rcases h with h | ⟨h1, fb, h2, h3, ho, hm⟩
  · exact .inl h
  · obtain ⟨h4, h5⟩ := hm.step ho hS hc
    exact .inr ⟨h1, fb, h2, h3, h5, h4⟩
theorem EngAt.step {C : Nat → Prop} (h : EngAt own c w e mp way s) (hS : Step C own w own' w') (hc : ¬ C c) : EngAt own' c w' e mp way s := by
  obtain ⟨rb, dn, rd, hb, ho, hr, hd⟩ := h
  obtain ⟨h1, h2⟩ := hS.blk hb ho hc
  exact ⟨rb, dn, rd, h1, h2, hr.step hS hc, hd.step hS hc⟩
/-- a cell of its own is written -/
theorem EngAt.put (h : EngAt own c w e mp way s) (j : Nat) (x : Value) (he : ∀ rb dn rd, egC mp way rb s'.st s'.cp dn rd = (egC mp way rb s.st s.cp dn rd).setIfInBounds j x) (hrg : s'.rg = s.rg) :
    Step (· = c) own w own (w.setCell ⟨e, j, none⟩ x) ∧ EngAt own c (w.setCell ⟨e, j, none⟩ x) e mp way s' := by
  obtain ⟨rb, dn, rd, hb, ho, ⟨hro, kv, hm, hk⟩, hd⟩ := h
  have hU : Upd (· = e) w (w.setCell ⟨e, j, none⟩ x) := (Upd.refl (· = e) w).setCell (p := ⟨e, j, none⟩) (.inl rfl) _
  refine ⟨⟨hU.mono (fun i _ h => by rw [h]; exact ho), fun _ _ => rfl⟩, rb, dn, rd, by rw [he]; exact hb.set_ j x, ho, ⟨hro, kv, hm.upd hU (hb.ne_map hm), by rw [hrg]; exact hk⟩, ?_⟩
  rcases hd with h | ⟨h1, fb, h2, h3, hfo, hfm⟩
  · exact .inl h
  · exact .inr ⟨h1, fb, h2, h3, hfo, hfm.upd hU (hb.ne_map hfm)⟩
theorem EngAt.cells (h : EngAt own c w e mp way s) : w.cell? ⟨e, 0, none⟩ = some (.pointer (some ⟨mp, 0, none⟩)) ∧ w.cell? ⟨e, 1, none⟩ = some way ∧ w.cell? ⟨e, 3, none⟩ = some (.int .u64 (s.st : Int)) ∧ w.cell? ⟨e, 4, none⟩ = some (.int .u64 (s.cp : Int)) ∧ w.frozen? ⟨e, 3, none⟩ = false ∧ w.frozen? ⟨e, 4, none⟩ = false ∧ e < w.heap.size := by
  obtain ⟨rb, dn, rd, hb, _⟩ := h
  exact ⟨hb.cell 0, hb.cell 1, hb.cell 3, hb.cell 4, hb.frozen 3, hb.frozen 4, hb.lt⟩
/-- a look at a register -/
theorem RegAt.look (h : RegAt own c w rb rg) (k : Nat) (hk : k < 18446744073709551616) (kI : Int) (hkI : kI = (k : Int)) :
    (Instr.lookup 106 (.map (some rb)) (.int .u64 kI) false).run Tryz.prog w = .ok (.int .u64 (rg k : Int)) w := by
  obtain ⟨_, kv, hm, hkv⟩ := h
  have := hm.look keyU encU_inj Tryz.underlying106 (zeroU w) (keyU_mk k hk) false
  rw [if_neg (by decide), hkv k] at this
  rw [hkI]
  exact this
theorem EngAt.reg (h : EngAt own c w e mp way s) : ∃ rb, w.cell? ⟨e, 2, none⟩ = some (.map (some rb)) ∧ RegAt own c w rb s.rg := by
  obtain ⟨rb, dn, rd, hb, _, hr, _⟩ := h
  exact ⟨rb, hb.cell 2, hr⟩
theorem eng_src (h : EngAt own c w e mp way s) : Calls Tryz.prog 38 #[.pointer (some ⟨e, 0, none⟩)] w fun x w' => x = .returned (.int .u64 (s.rg 0 : Int)) ∧ w = w' := by
  obtain ⟨rb, h2, hr⟩ := h.reg
  have hl := hr.look 0 (by decide) 0 rfl
  have hlt := h.cells.2.2.2.2.2.2
  clear h hr
  go_enter Tryz.func38, Tryz.ntmps38
  go_wp2
  go_ret
  exact ⟨rfl, rfl⟩
theorem eng_dst (h : EngAt own c w e mp way s) : Calls Tryz.prog 39 #[.pointer (some ⟨e, 0, none⟩)] w fun x w' => x = .returned (.int .u64 (s.rg 8 : Int)) ∧ w = w' := by
  obtain ⟨rb, h2, hr⟩ := h.reg
  have hl := hr.look 8 (by decide) 8 rfl
  have hlt := h.cells.2.2.2.2.2.2
  clear h hr
  go_enter Tryz.func39, Tryz.ntmps39
  go_wp2
  go_ret
  exact ⟨rfl, rfl⟩
theorem eng_len (h : EngAt own c w e mp way s) : Calls Tryz.prog 41 #[.pointer (some ⟨e, 0, none⟩)] w fun x w' => x = .returned (.int .u64 (s.rg 16 : Int)) ∧ w = w' := by
  obtain ⟨rb, h2, hr⟩ := h.reg
  have hl := hr.look 16 (by decide) 16 rfl
  have hlt := h.cells.2.2.2.2.2.2
  clear h hr
  go_enter Tryz.func41, Tryz.ntmps41
  go_wp2
  go_ret
  exact ⟨rfl, rfl⟩
theorem eng_msi (h : EngAt own c w e mp way s) : Calls Tryz.prog 42 #[.pointer (some ⟨e, 0, none⟩)] w fun x w' => x = .returned (.int .u64 (s.rg 40 : Int)) ∧ w = w' := by
  obtain ⟨rb, h2, hr⟩ := h.reg
  have hl := hr.look 40 (by decide) 40 rfl
  have hlt := h.cells.2.2.2.2.2.2
  clear h hr
  go_enter Tryz.func42, Tryz.ntmps42
  go_wp2
  go_ret
  exact ⟨rfl, rfl⟩
theorem eng_data (h : EngAt own c w e mp way s) : Calls Tryz.prog 43 #[.pointer (some ⟨e, 0, none⟩)] w fun x w' => x = .returned (.int .u64 (s.rg 48 : Int)) ∧ w = w' := by
  obtain ⟨rb, h2, hr⟩ := h.reg
  have hl := hr.look 48 (by decide) 48 rfl
  have hlt := h.cells.2.2.2.2.2.2
  clear h hr
  go_enter Tryz.func43, Tryz.ntmps43
  go_wp2
  go_ret
  exact ⟨rfl, rfl⟩
theorem eng_control (w : World) : Calls Tryz.prog 62 #[.pointer (some ⟨e, 0, none⟩)] w fun x w' => x = .returned (.int .u64 0) ∧ w = w' := by
  go_enter Tryz.func62, Tryz.ntmps62
  go_wp2
  go_ret
  exact ⟨rfl, rfl⟩
theorem eng_status (h : EngAt own c w e mp way s) : Calls Tryz.prog 63 #[.pointer (some ⟨e, 0, none⟩)] w fun x w' => x = .returned (.int .u64 (s.st : Int)) ∧ w = w' := by
  obtain ⟨_, _, h3, _, _, _, hlt⟩ := h.cells
  clear h
  go_enter Tryz.func63, Tryz.ntmps63
  go_wp2
  go_ret
  exact ⟨rfl, rfl⟩
theorem eng_Busy (h : EngAt own c w e mp way s) : Calls Tryz.prog 13 #[.pointer (some ⟨e, 0, none⟩)] w fun x w' => x = .returned (.bool (decide (s.st = 1))) ∧ w = w' := by
  obtain ⟨_, _, h3, _, _, _, hlt⟩ := h.cells
  have hb : ((s.st : Int) == 1) = decide (s.st = 1) := by
    by_cases h : s.st = 1
    · rw [decide_eq_true h, h]; rfl
    · rw [decide_eq_false h]; simp; omega
  clear h
  go_enter Tryz.func13, Tryz.ntmps13
  go_wp2
  go_ret
  exact ⟨rfl, rfl⟩
theorem eng_fits (off : Nat) (hoff : off < 18446744073709551616) (size : Int) (hs0 : -9223372036854775808 ≤ size) (hs1 : size ≤ 9223372036854775807) (w : World) :
    Calls Tryz.prog 31 #[.int .u64 (off : Int), .int .i64 size] w fun x w' => x = .returned (.bool (fitsE off size)) ∧ w = w' := by
  by_cases h4 : size = 4
  · subst h4
    by_cases hm : (off : Int) % 4 = 0
    · have hm2 : ((off : Int) % 4 == 0) = true := by simpa using hm
      have hf : fitsE off 4 = decide ((off : Int) < 56) := by unfold fitsE; rw [hm2]; simp; omega
      rw [hf]
      clear hf
      go_enter Tryz.func31, Tryz.ntmps31
      go_wp2
      go_ret
      exact ⟨rfl, rfl⟩
    · have hm2 : ((off : Int) % 4 == 0) = false := by simpa using hm
      have hf : fitsE off 4 = false := by unfold fitsE; rw [hm2]; simp
      rw [hf]
      clear hf
      go_enter Tryz.func31, Tryz.ntmps31
      go_wp2
      go_ret
      exact ⟨rfl, rfl⟩
  · have h4b : (size == 4) = false := by simpa using h4
    by_cases h8 : size = 8
    · subst h8
      by_cases hm : (off : Int) % 8 = 0
      · have hm2 : ((off : Int) % 8 == 0) = true := by simpa using hm
        have hf : fitsE off 8 = decide ((off : Int) < 56) := by unfold fitsE; rw [hm2]; simp; omega
        rw [hf]
        clear hf
        go_enter Tryz.func31, Tryz.ntmps31
        go_wp2
        go_ret
        exact ⟨rfl, rfl⟩
      · have hm2 : ((off : Int) % 8 == 0) = false := by simpa using hm
        have hf : fitsE off 8 = false := by unfold fitsE; rw [hm2]; simp
        rw [hf]
        clear hf
        go_enter Tryz.func31, Tryz.ntmps31
        go_wp2
        go_ret
        exact ⟨rfl, rfl⟩
    · have h8b : (size == 8) = false := by simpa using h8
      have hf : fitsE off size = false := by unfold fitsE; rw [h4b, h8b]; rfl
      rw [hf]
      clear hf
      go_enter Tryz.func31, Tryz.ntmps31
      go_wp2
      go_ret
      exact ⟨rfl, rfl⟩
end
end Go.Proofs.YtonhlgfgbdiapaaGreat

/- The engine: command, set, Write. -/
namespace Go.Proofs.YtonhlgfgbdiapaaGreat
set_option linter.unusedVariables false
set_option linter.unusedSimpArgs false
open Go.RowKit Go.Maps
set_option maxRecDepth 100000

theorem and1_u (v : Nat) (hv : v < 18446744073709551616) : bits .and .u64 (v : Int) 1 = ((v % 2 : Nat) : Int) := by
  rw [show (1 : Int) = ((1 : Nat) : Int) from rfl, u64_and_nat _ _ hv (by decide), Nat.and_one_is_mod]
theorem and2_u (v : Nat) (hv : v < 18446744073709551616) : bits .and .u64 (v : Int) 2 = ((v / 2 % 2 * 2 : Nat) : Int) := by
  rw [show (2 : Int) = ((2 : Nat) : Int) from rfl, u64_and_nat _ _ hv (by decide)]
  have h1 : v &&& 2 ≤ 2 := Nat.and_le_right
  have h2 : (v &&& 2) % 4 = (v % 4 &&& 2 % 4) := by rw [show 4 = 2 ^ 2 from rfl, Nat.and_mod_two_pow]
  have key : ∀ x : Nat, x < 4 → (x &&& 2 % 4) = x / 2 % 2 * 2 := by decide
  have h3 := key (v % 4) (Nat.mod_lt _ (by decide))
  omega
theorem andNot7 (off : Nat) (h : off < 56) : bits .andNot .u64 (off : Int) 7 = ((off / 8 * 8 : Nat) : Int) := by
  have key : ∀ off : Nat, off < 56 → bits .andNot .u64 (off : Int) 7 = ((off / 8 * 8 : Nat) : Int) := by decide +kernel
  exact key off h
theorem and4_u (off : Nat) (h : off < 56) : bits .and .u64 (off : Int) 4 = ((off / 4 % 2 * 4 : Nat) : Int) := by
  have key : ∀ off : Nat, off < 56 → bits .and .u64 (off : Int) 4 = ((off / 4 % 2 * 4 : Nat) : Int) := by decide +kernel
  exact key off h
theorem or3_u (a b n : Nat) (ha : a < 18446744073709551616) (hb : b < 18446744073709551616) (hn : n < 18446744073709551616) :
    ((bits .or .u64 (bits .or .u64 (a : Int) (b : Int)) (n : Int)).tmod 8 == 0) = (decide (a % 8 = 0) && decide (b % 8 = 0) && decide (n % 8 = 0)) := by
  have h1 : a ||| b < 18446744073709551616 := Nat.or_lt_two_pow (n := 64) ha hb
  rw [u64_or_nat _ _ ha hb, u64_or_nat _ _ h1 hn, Int.tmod_eq_emod_of_nonneg (by omega)]
  have h2 : ((a ||| b) ||| n) % 8 = ((a % 8 ||| b % 8) ||| n % 8) := by
    rw [show 8 = 2 ^ 3 from rfl, Nat.or_mod_two_pow, Nat.or_mod_two_pow]
  have h3 : ((((a ||| b) ||| n : Nat) : Int) % 8 == 0) = (((a ||| b) ||| n) % 8 == 0) := by
    rw [Bool.eq_iff_iff]; simp; omega
  rw [h3, h2]
  have key : ∀ x : Nat, x < 8 → ∀ y : Nat, y < 8 → ∀ z : Nat, z < 8 → ((x ||| y) ||| z == 0) = (decide (x = 0) && decide (y = 0) && decide (z = 0)) := by decide +kernel
  exact key _ (Nat.mod_lt _ (by decide)) _ (Nat.mod_lt _ (by decide)) _ (Nat.mod_lt _ (by decide))
theorem orLo (old v : Nat) (ho : old < 18446744073709551616) : bits .or .u64 ((old : Int) / 4294967296 * 4294967296) ((v : Int) % 4294967296) = ((old / 4294967296 * 4294967296 + v % 4294967296 : Nat) : Int) := by
  have e1 : (old : Int) / 4294967296 * 4294967296 = ((old / 4294967296 * 4294967296 : Nat) : Int) := by omega
  have e2 : (v : Int) % 4294967296 = ((v % 4294967296 : Nat) : Int) := by omega
  rw [e1, e2, u64_or_nat _ _ (by omega) (by omega), nat_join 32 _ _ (by omega) (by omega)]
theorem orHi (old v : Nat) : bits .or .u64 ((old : Int) % 4294967296) (IntKind.u64.wrap ((v : Int) * 4294967296)) = ((old % 4294967296 + v % 4294967296 * 4294967296 : Nat) : Int) := by
  have e0 : IntKind.u64.wrap ((v : Int) * 4294967296) = (v : Int) * 4294967296 % 18446744073709551616 := by simp [IntKind.wrap, IntKind.bits, IntKind.signed]
  rw [e0]
  have e1 : (v : Int) * 4294967296 % 18446744073709551616 = ((v % 4294967296 * 4294967296 : Nat) : Int) := by omega
  have e2 : (old : Int) % 4294967296 = ((old % 4294967296 : Nat) : Int) := by omega
  rw [e1, e2, u64_or_nat _ _ (by omega) (by omega), Nat.or_comm, nat_join 32 _ _ (by omega) (by omega), Nat.add_comm]
section
variable {own own' : Nat → Nat} {c e mp rb b : Nat} {way rd : Value} {w w' : World} {s s' : Eg}
set_option maxHeartbeats 1500000 in
theorem eng_command (h : EngAt own c w e mp way s) (hok : EgOk s) (v : Nat) (hv : v < 18446744073709551616) :
    Calls Tryz.prog 32 #[.pointer (some ⟨e, 0, none⟩), .int .u64 (v : Int)] w fun x w' => x = .returned (.tuple #[]) ∧ Step (· = c) own w own w' ∧ EngAt own c w' e mp way (cmdE s v) := by
  obtain ⟨_, _, c3, c4, z3, z4, hlt⟩ := h.cells
  by_cases hs : s.st = 1
  · have hs1 : ((s.st : Int) == 1) = true := by rw [hs]; rfl
    by_cases h2 : v / 2 % 2 = 1
    · have hv2 : (bits .and .u64 (v : Int) 2 != 0) = true := by rw [and2_u v hv, h2]; rfl
      have hc : cmdE s v = { s with st := 0 } := by unfold cmdE; rw [if_pos hs, if_pos h2]
      rw [hc]
      have HF := Lib.hid (h.put (s' := { s with st := 0 }) 3 (.int .u64 0) (fun _ _ _ => rfl) rfl)
      clear h hok hs h2 hc
      go_enter Tryz.func32, Tryz.ntmps32
      go_wp2
      go_end0
      exact ⟨rfl, HF.out⟩
    · have hv2 : (bits .and .u64 (v : Int) 2 != 0) = false := by rw [and2_u v hv, show v / 2 % 2 = 0 by omega]; rfl
      have hc : cmdE s v = s := by unfold cmdE; rw [if_pos hs, if_neg h2]
      rw [hc]
      have HF := Lib.hid (And.intro (Step.refl (· = c) own w) h)
      clear h hok hs h2 hc
      go_enter Tryz.func32, Tryz.ntmps32
      go_wp2
      go_end0
      exact ⟨rfl, HF.out⟩
  · have hs1 : ((s.st : Int) == 1) = false := by simp; omega
    by_cases h1 : v % 2 = 1
    · have hv1 : (bits .and .u64 (v : Int) 1 != 0) = true := by rw [and1_u v hv, h1]; rfl
      have hp1 := h.put (s' := { s with st := 1 }) 3 (.int .u64 1) (fun _ _ _ => rfl) rfl
      have hp2 := hp1.2.put (s' := { s with st := 1, cp := 0 }) 4 (.int .u64 0) (fun _ _ _ => rfl) rfl
      have HL := Lib.hid (eng_len hp2.2)
      have HS := Lib.hid (eng_src hp2.2)
      have HD := Lib.hid (eng_dst hp2.2)
      have hor := or3_u (s.rg 0) (s.rg 8) (s.rg 16) (hok.rg 0) (hok.rg 8) (hok.rg 16)
      have hp3 := hp2.2.put (s' := { s with st := 3, cp := 0 }) 3 (.int .u64 3) (fun _ _ _ => rfl) rfl
      cases hb : badG s with
      | true =>
        have hc : cmdE s v = { s with st := 3, cp := 0 } := by unfold cmdE; rw [if_neg hs, if_pos h1, hb]; rfl
        rw [hc]
        have HF := Lib.hid (And.intro ((hp1.1.trans hp2.1).trans hp3.1) hp3.2)
        by_cases hn0 : s.rg 16 = 0
        · have n0 : ((s.rg 16 : Int) == 0) = true := by rw [hn0]; rfl
          clear h hok hs h1 hc hb hp1 hp2 hp3 hor hn0
          go_enter Tryz.func32, Tryz.ntmps32
          go_wp2_with fail
          ((with_reducible refine HL.out.mono ?_); rintro x wz ⟨rfl, rfl⟩)
          clear HL
          go_wp2
          go_end0
          exact ⟨rfl, HF.out⟩
        · have n0 : ((s.rg 16 : Int) == 0) = false := by simp; omega
          by_cases hn1 : 4096 < s.rg 16
          · have n1 : decide ((4096 : Int) < (s.rg 16 : Int)) = true := by simp; omega
            clear h hok hs h1 hc hb hp1 hp2 hp3 hor hn0 hn1
            go_enter Tryz.func32, Tryz.ntmps32
            go_wp2_with fail
            ((with_reducible refine HL.out.mono ?_); rintro x wz ⟨rfl, rfl⟩)
            clear HL
            go_wp2
            go_end0
            exact ⟨rfl, HF.out⟩
          · have n1 : decide ((4096 : Int) < (s.rg 16 : Int)) = false := by simp; omega
            have hor2 : ((bits .or .u64 (bits .or .u64 (s.rg 0 : Int) (s.rg 8 : Int)) (s.rg 16 : Int)).tmod 8 != 0) = true := by
              unfold bne; rw [hor]; unfold badG at hb; simp at hb ⊢; omega
            clear h hok hs h1 hc hb hp1 hp2 hp3 hor hn0 hn1
            go_enter Tryz.func32, Tryz.ntmps32
            go_wp2_with fail
            ((with_reducible refine HL.out.mono ?_); rintro x wz ⟨rfl, rfl⟩)
            clear HL
            go_wp2_with fail
            ((with_reducible refine HS.out.mono ?_); rintro x wz ⟨rfl, rfl⟩)
            clear HS
            go_wp2_with fail
            ((with_reducible refine HD.out.mono ?_); rintro x wz ⟨rfl, rfl⟩)
            clear HD
            go_wp2
            go_end0
            exact ⟨rfl, HF.out⟩
      | false =>
        have hc : cmdE s v = { s with st := 1, cp := 0 } := by unfold cmdE; rw [if_neg hs, if_pos h1, hb]; rfl
        rw [hc]
        have HF := Lib.hid (And.intro (hp1.1.trans hp2.1) hp2.2)
        have n0 : ((s.rg 16 : Int) == 0) = false := by unfold badG at hb; simp at hb ⊢; omega
        have n1 : decide ((4096 : Int) < (s.rg 16 : Int)) = false := by unfold badG at hb; simp at hb ⊢; omega
        have hor2 : ((bits .or .u64 (bits .or .u64 (s.rg 0 : Int) (s.rg 8 : Int)) (s.rg 16 : Int)).tmod 8 != 0) = false := by
          unfold bne; rw [hor]; unfold badG at hb; simp at hb ⊢; omega
        clear h hok hs h1 hc hb hp1 hp2 hp3 hor
        go_enter Tryz.func32, Tryz.ntmps32
        go_wp2_with fail
        ((with_reducible refine HL.out.mono ?_); rintro x wz ⟨rfl, rfl⟩)
        clear HL
        go_wp2_with fail
        ((with_reducible refine HS.out.mono ?_); rintro x wz ⟨rfl, rfl⟩)
        clear HS
        go_wp2_with fail
        ((with_reducible refine HD.out.mono ?_); rintro x wz ⟨rfl, rfl⟩)
        clear HD
        go_wp2
        go_end0
        exact ⟨rfl, HF.out⟩
    · have hv1 : (bits .and .u64 (v : Int) 1 != 0) = false := by rw [and1_u v hv, show v % 2 = 0 by omega]; rfl
      by_cases h2 : v / 2 % 2 = 1
      · have hv2 : (bits .and .u64 (v : Int) 2 != 0) = true := by rw [and2_u v hv, h2]; rfl
        have hc : cmdE s v = { s with st := 0 } := by unfold cmdE; rw [if_neg hs, if_neg h1, if_pos h2]
        rw [hc]
        have HF := Lib.hid (h.put (s' := { s with st := 0 }) 3 (.int .u64 0) (fun _ _ _ => rfl) rfl)
        clear h hok hs h1 h2 hc
        go_enter Tryz.func32, Tryz.ntmps32
        go_wp2
        go_end0
        exact ⟨rfl, HF.out⟩
      · have hv2 : (bits .and .u64 (v : Int) 2 != 0) = false := by rw [and2_u v hv, show v / 2 % 2 = 0 by omega]; rfl
        have hc : cmdE s v = s := by unfold cmdE; rw [if_neg hs, if_neg h1, if_neg h2]
        rw [hc]
        have HF := Lib.hid (And.intro (Step.refl (· = c) own w) h)
        clear h hok hs h1 h2 hc
        go_enter Tryz.func32, Tryz.ntmps32
        go_wp2
        go_end0
        exact ⟨rfl, HF.out⟩
/-- a register is stored -/
theorem EngAt.stored (h : EngAt own c w e mp way s) : ∃ rb kv, own rb = c ∧ w.cell? ⟨e, 2, none⟩ = some (.map (some rb)) ∧ MapB Tryz.prog 23 encU w rb kv ∧
    ∀ (k x : Nat) (w' : World) (y : Value), y = Value.int .u64 (x : Int) → MapB Tryz.prog 23 encU w' rb (kvPut kv k y) → Upd (· = rb) w w' → Step (· = c) own w own w' ∧ EngAt own c w' e mp way (putE s k x) := by
  obtain ⟨rb, dn, rd, hb, ho, ⟨hro, kv, hm, hk⟩, hd⟩ := h
  refine ⟨rb, kv, hro, hb.cell 2, hm, ?_⟩
  rintro k x w' y rfl hm' hU
  have hne : e ≠ rb := fun he => (hb.ne_map hm) he.symm
  refine ⟨⟨hU.mono (fun i _ h => by rw [h]; exact hro), fun _ _ => rfl⟩, rb, dn, rd, hb.upd hU hne, ho, ⟨hro, _, hm', fun k' => ?_⟩, ?_⟩
  · rw [kvGet_put]
    show _ = Value.int .u64 ((if k' = k then x else s.rg k' : Nat) : Int)
    by_cases hkk : k' = k
    · rw [if_pos hkk, if_pos hkk]; rfl
    · rw [if_neg hkk, if_neg hkk]; exact hk k'
  · rcases hd with h | ⟨h1, fb, h2, h3, hfo, hfm⟩
    · exact .inl h
    · exact .inr ⟨h1, fb, h2, h3, hfo, hfm.upd hU h3⟩
set_option maxHeartbeats 1500000 in
theorem eng_set (h : EngAt own c w e mp way s) (hok : EgOk s) (off : Nat) (hoff : off < 56) (size : Int) (hsz : size = 4 ∨ size = 8) (hmod : (off : Int) % size = 0) (v : Nat) (hv : v < 18446744073709551616) :
    Calls Tryz.prog 33 #[.pointer (some ⟨e, 0, none⟩), .int .u64 (off : Int), .int .i64 size, .int .u64 (v : Int)] w fun x w' => x = .returned (.tuple #[]) ∧ Step (· = c) own w own w' ∧ EngAt own c w' e mp way (putE s (off / 8 * 8) (setE (s.rg (off / 8 * 8)) off size v)) := by
  obtain ⟨_, _, c3, c4, z3, z4, hlt⟩ := h.cells
  obtain ⟨rb0, c2', hr⟩ := h.reg
  obtain ⟨rb, kv, hro, c2, hm, hst⟩ := h.stored
  obtain rfl : rb0 = rb := by rw [c2] at c2'; cases c2'; rfl
  have ha := andNot7 off hoff
  obtain ⟨k, hk⟩ : ∃ k, off / 8 * 8 = k := ⟨_, rfl⟩
  rw [hk] at ha ⊢
  have hk64 : k < 18446744073709551616 := by omega
  have hl := hr.look k hk64 (k : Int) rfl
  have hold := hok.rg k
  have HST := Lib.hid (And.intro hm hst)
  rcases hsz with rfl | rfl
  · by_cases h4 : off % 8 = 0
    · have h4b : (bits .and .u64 (off : Int) 4 == 0) = true := by rw [and4_u off hoff, show off / 4 % 2 = 0 by omega]; rfl
      obtain ⟨N, hN⟩ : ∃ N, setE (s.rg k) off 4 v = N := ⟨_, rfl⟩
      have hor : bits .or .u64 ((s.rg k : Int) / 4294967296 * 4294967296) ((v : Int) % 4294967296) = (N : Int) := by rw [← hN]; unfold setE; rw [if_neg (by decide), if_pos h4]; exact orLo _ _ hold
      clear h4
      clear h hr hst hm hok c2' hk hmod
      go_enter Tryz.func33, Tryz.ntmps33
      go_wp2_with ((with_reducible show wpList _ _ _ ((⟨none, _, _, _, _, _⟩ : Oper) :: _) _ _); refine wpList_storeB rfl _ _ _ _ rfl HST.out.1 keyU encU_inj Tryz.underlying106 rfl (a := k) rfl (keyU_mk k hk64) (.int .u64 (N : Int)) rfl ?_; intro w9 hM9 hU9)
      have HF := Lib.hid (HST.out.2 k N w9 _ rfl hM9 hU9)
      clear hM9 hU9 HST
      go_end0
      exact ⟨rfl, HF.out⟩
    · have h4b : (bits .and .u64 (off : Int) 4 == 0) = false := by rw [and4_u off hoff, show off / 4 % 2 = 1 by omega]; rfl
      obtain ⟨N, hN⟩ : ∃ N, setE (s.rg k) off 4 v = N := ⟨_, rfl⟩
      have hor : bits .or .u64 ((s.rg k : Int) % 4294967296) (IntKind.u64.wrap ((v : Int) * 4294967296)) = (N : Int) := by rw [← hN]; unfold setE; rw [if_neg (by decide), if_neg h4]; exact orHi _ _
      clear h4
      clear h hr hst hm hok c2' hk hmod
      go_enter Tryz.func33, Tryz.ntmps33
      go_wp2_with ((with_reducible show wpList _ _ _ ((⟨none, _, _, _, _, _⟩ : Oper) :: _) _ _); refine wpList_storeB rfl _ _ _ _ rfl HST.out.1 keyU encU_inj Tryz.underlying106 rfl (a := k) rfl (keyU_mk k hk64) (.int .u64 (N : Int)) rfl ?_; intro w9 hM9 hU9)
      have HF := Lib.hid (HST.out.2 k N w9 _ rfl hM9 hU9)
      clear hM9 hU9 HST
      go_end0
      exact ⟨rfl, HF.out⟩
  · rw [show setE (s.rg k) off 8 v = v from if_pos rfl]
    clear h hr hst hm hok c2' hk hmod
    go_enter Tryz.func33, Tryz.ntmps33
    go_wp2_with ((with_reducible show wpList _ _ _ ((⟨none, _, _, _, _, _⟩ : Oper) :: _) _ _); refine wpList_storeB rfl _ _ _ _ rfl HST.out.1 keyU encU_inj Tryz.underlying106 rfl (a := k) rfl (keyU_mk k hk64) (.int .u64 (v : Int)) rfl ?_; intro w9 hM9 hU9)
    have HF := Lib.hid (HST.out.2 k v w9 _ rfl hM9 hU9)
    clear hM9 hU9 HST
    go_end0
    exact ⟨rfl, HF.out⟩
/-- a write -/
theorem eng_Write (h : EngAt own c w e mp way s) (hok : EgOk s) (off : Nat) (hoff : off < 18446744073709551616) (size : Int) (hs0 : -9223372036854775808 ≤ size) (hs1 : size ≤ 9223372036854775807) (v : Nat) (hv : v < 18446744073709551616) :
    Calls Tryz.prog 11 #[.pointer (some ⟨e, 0, none⟩), .int .u64 (off : Int), .int .i64 size, .int .u64 (v : Int)] w fun x w' => x = .returned (.bool (fitsE off size)) ∧ Step (· = c) own w own w' ∧ EngAt own c w' e mp way (writeE s off size v) := by
  obtain ⟨_, _, c3, c4, z3, z4, hlt⟩ := h.cells
  have HFi := Lib.hid (eng_fits off hoff size hs0 hs1 w)
  cases hf : fitsE off size with
  | false =>
    rw [hf] at HFi
    rw [show writeE s off size v = s from by unfold writeE; rw [hf]; rfl]
    have HF := Lib.hid (And.intro (Step.refl (· = c) own w) h)
    clear h hok hf
    go_enter Tryz.func11, Tryz.ntmps11
    go_wp2_with fail
    ((with_reducible refine HFi.out.mono ?_); rintro x wz ⟨rfl, rfl⟩)
    clear HFi
    go_wp2
    go_ret
    exact ⟨rfl, HF.out⟩
  | true =>
    rw [hf] at HFi
    obtain ⟨hsz, hmod, hoff2⟩ : (size = 4 ∨ size = 8) ∧ (off : Int) % size = 0 ∧ off < 56 := by
      unfold fitsE at hf
      simp only [Bool.and_eq_true, Bool.or_eq_true, beq_iff_eq, decide_eq_true_eq] at hf
      exact ⟨hf.1.1, hf.1.2, hf.2⟩
    have ha := andNot7 off hoff2
    have hwr : writeE s off size v = if off / 8 * 8 = 24 then (if off = 24 then cmdE s v else s) else if off / 8 * 8 = 32 then s else if s.st = 1 then s else putE s (off / 8 * 8) (setE (s.rg (off / 8 * 8)) off size v) := by
      unfold writeE; rw [hf]; rfl
    rw [hwr]
    have hse := eng_set h hok off hoff2 size hsz hmod v hv
    have hcm := eng_command h hok v hv
    obtain ⟨k, hk⟩ : ∃ k, off / 8 * 8 = k := ⟨_, rfl⟩
    rw [hk] at ha hse ⊢
    by_cases hk24 : k = 24
    · rw [if_pos hk24]
      have k1 : ((k : Int) == 24) = true := by rw [hk24]; rfl
      by_cases ho24 : off = 24
      · rw [if_pos ho24]
        have k2 : ((off : Int) == 24) = true := by rw [ho24]; rfl
        have HC := Lib.hid hcm
        clear h hok hf hsz hmod hwr hse hcm hk hk24 ho24
        go_enter Tryz.func11, Tryz.ntmps11
        go_wp2_with fail
        ((with_reducible refine HFi.out.mono ?_); rintro x wz ⟨rfl, rfl⟩)
        clear HFi
        go_wp2_with fail
        ((with_reducible refine HC.out.mono ?_); rintro x w1 ⟨rfl, h1⟩)
        have HF := Lib.hid h1
        clear HC h1
        go_wp2
        go_ret
        exact ⟨rfl, HF.out⟩
      · rw [if_neg ho24]
        have k2 : ((off : Int) == 24) = false := by simp; omega
        have HF := Lib.hid (And.intro (Step.refl (· = c) own w) h)
        clear h hok hf hsz hmod hwr hse hcm hk hk24 ho24
        go_enter Tryz.func11, Tryz.ntmps11
        go_wp2_with fail
        ((with_reducible refine HFi.out.mono ?_); rintro x wz ⟨rfl, rfl⟩)
        clear HFi
        go_wp2
        go_ret
        exact ⟨rfl, HF.out⟩
    · rw [if_neg hk24]
      have k1 : ((k : Int) == 24) = false := by simp; omega
      by_cases hk32 : k = 32
      · rw [if_pos hk32]
        have k2 : ((k : Int) == 32) = true := by rw [hk32]; rfl
        have HF := Lib.hid (And.intro (Step.refl (· = c) own w) h)
        clear h hok hf hsz hmod hwr hse hcm hk hk24 hk32
        go_enter Tryz.func11, Tryz.ntmps11
        go_wp2_with fail
        ((with_reducible refine HFi.out.mono ?_); rintro x wz ⟨rfl, rfl⟩)
        clear HFi
        go_wp2
        go_ret
        exact ⟨rfl, HF.out⟩
      · rw [if_neg hk32]
        have k2 : ((k : Int) == 32) = false := by simp; omega
        by_cases hs : s.st = 1
        · rw [if_pos hs]
          have k3 : ((s.st : Int) == 1) = true := by rw [hs]; rfl
          have k4 : ((s.st : Int) != 1) = false := by rw [hs]; rfl
          have HF := Lib.hid (And.intro (Step.refl (· = c) own w) h)
          clear h hok hf hsz hmod hwr hse hcm hk hk24 hk32 hs
          go_enter Tryz.func11, Tryz.ntmps11
          go_wp2_with fail
          ((with_reducible refine HFi.out.mono ?_); rintro x wz ⟨rfl, rfl⟩)
          clear HFi
          go_wp2
          go_ret
          exact ⟨rfl, HF.out⟩
        · rw [if_neg hs]
          have k3 : ((s.st : Int) == 1) = false := by simp; omega
          have k4 : ((s.st : Int) != 1) = true := by simp; omega
          have HC := Lib.hid hse
          clear h hok hf hsz hmod hwr hse hcm hk hk24 hk32 hs
          go_enter Tryz.func11, Tryz.ntmps11
          go_wp2_with fail
          ((with_reducible refine HFi.out.mono ?_); rintro x wz ⟨rfl, rfl⟩)
          clear HFi
          go_wp2_with fail
          ((with_reducible refine HC.out.mono ?_); rintro x w1 ⟨rfl, h1⟩)
          have HF := Lib.hid h1
          clear HC h1
          go_wp2
          go_ret
          exact ⟨rfl, HF.out⟩
end
end Go.Proofs.YtonhlgfgbdiapaaGreat

/- sync.Once and the atomics, one goroutine (after the kit's worked proof 'Lazy'). -/
namespace Go.Proofs.YtonhlgfgbdiapaaGreat
set_option linter.unusedVariables false
open Go.RowKit
set_option maxRecDepth 100000

theorem race_disable (w : World) : (callFunc 135 #[]).run Tryz.prog w = .ok (.value (.tuple #[])) w := run_call_mark0 Tryz.func135 (by kernel_rfl) (by kernel_rfl) (by kernel_rfl) .disable (by kernel_rfl) w
theorem race_enable (w : World) : (callFunc 137 #[]).run Tryz.prog w = .ok (.value (.tuple #[])) w := run_call_mark0 Tryz.func137 (by kernel_rfl) (by kernel_rfl) (by kernel_rfl) .enable (by kernel_rfl) w
theorem race_acquire (a : Addr) (w : World) : (callFunc 138 #[.pointer (some a)]).run Tryz.prog w = .ok (.value (.tuple #[])) w := run_call_marked Tryz.func138 (by kernel_rfl) (by kernel_rfl) (by kernel_rfl) .acquire (by kernel_rfl) a w
theorem race_release (a : Addr) (w : World) : (callFunc 140 #[.pointer (some a)]).run Tryz.prog w = .ok (.value (.tuple #[])) w := run_call_marked Tryz.func140 (by kernel_rfl) (by kernel_rfl) (by kernel_rfl) .releaseMerge (by kernel_rfl) a w

theorem store_deferred (a : Addr) (x : Value) (u : FrameMode) (w : World) (hc : w.cell? a = some x) (hz : w.frozen? a = false) :
    CallsD Tryz.prog 116 #[.pointer (some a), .bool true] u w fun e u' w' => u' = u ∧ (e = .returned (.tuple #[]) ∧ w' = w.drew.setCell a (.int .u32 1)) := by
  have hc' : w.drew.cell? a = some x := by go_simp
  have hz' : w.drew.frozen? a = false := by go_simp
  have hst := run_call_store (P := Tryz.prog) Tryz.func132 (by kernel_rfl) (by kernel_rfl) (by kernel_rfl) (by kernel_rfl) (k := .u32) (y := 1) hc' hz'
  go_enter_d Tryz.func116, Tryz.ntmps116
  go_wp2
  go_region_calls
  all_goals (go_end0; exact ⟨rfl, rfl⟩)

theorem unlock_deferred (a : Addr) (u : FrameMode) (w : World) (hc : w.cell? a = some (.int .i32 1)) (hz : w.frozen? a = false) :
    CallsD Tryz.prog 115 #[.pointer (some a)] u w fun e u' w' => u' = u ∧ (e = .returned (.tuple #[]) ∧ w' = w.setCell a (.int .i32 0)) := by
  have hd := race_disable
  have he := race_enable
  have hr := race_release
  have hadd := run_call_add (P := Tryz.prog) Tryz.func141 (by kernel_rfl) (by kernel_rfl) (by kernel_rfl) .i32 (by kernel_rfl) (y := -1) (s := 0) hc hz (by simp [go_sem]; rfl)
  have hcv := run_convert_to_unsafe (P := Tryz.prog) (src := 209) (dst := 213) Tryz.underlying209 Tryz.underlying213 (by kernel_rfl) hc
  go_enter_d Tryz.func115, Tryz.ntmps115
  go_wp2
  go_end0
  go_wp2
  go_end0
  exact ⟨rfl, rfl⟩

theorem lock_free (a : Addr) (w : World) (hc : w.cell? a = some (.int .i32 0)) (hz : w.frozen? a = false) :
    Calls Tryz.prog 114 #[.pointer (some a)] w fun e w' => e = .returned (.tuple #[]) ∧ w' = w.setCell a (.int .i32 1) := by
  have hd := race_disable
  have he := race_enable
  have ha := race_acquire
  have hcas := run_call_cas_hit (P := Tryz.prog) Tryz.func136 (by kernel_rfl) (by kernel_rfl) (by kernel_rfl) .i32 (by kernel_rfl) (y := 1) hc hz
  have hc' : (w.setCell a (.int .i32 1)).cell? a = some (.int .i32 1) := World.cell?_setCell_same w a _ hc
  have hcv := run_convert_to_unsafe (P := Tryz.prog) (src := 209) (dst := 213) Tryz.underlying209 Tryz.underlying213 (by kernel_rfl) hc'
  go_enter Tryz.func114, Tryz.ntmps114
  go_wp2
  first | go_end0 | (simp only [Exit.inBlock, Exit.then]; refine bodyPost_ret (results_none rfl _ _ _) rfl ?_) | refine bodyPost_ret (results_none rfl _ _ _) rfl ?_
  go_wp2
  go_end0
  exact ⟨rfl, rfl⟩
end Go.Proofs.YtonhlgfgbdiapaaGreat
