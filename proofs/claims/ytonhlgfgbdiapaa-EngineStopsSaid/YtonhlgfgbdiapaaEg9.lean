import Derived.Test.YtonhlgfgbdiapaaEg8
import Derived.Test.YtonhlgfgbdiapaaMref5
import Derived.Test.YtonhlgfgbdiapaaCopy
import Derived.Test.YtonhlgfgbdiapaaPlace
/- More of an engine over a plain memory; the runs of EngineCopies and EngineStops, plain. -/
namespace Go.Proofs.Ytonhlgfgbdiapaa
set_option linter.unusedVariables false
set_option linter.unusedSimpArgs false
open Go.RowKit
set_option maxRecDepth 100000
section
variable {w0 w w' : World} {own own' : Nat → Nat} {e p p2 bs n : Nat} {s s' : Eg} {m m' m2 m2' : Nat → Int}
theorem FE.readW (h : FE w0 own w e p p2 bs n s m m2) (addr size : Int) (ha0 : 0 ≤ addr) (ha1 : addr < 18446744073709551616) (hs0 : -9223372036854775808 ≤ size) (hs1 : size ≤ 9223372036854775807) :
    Calls Try.prog 16 #[.pointer (some ⟨p2, 0, none⟩), .int .u64 addr, .int .i64 size] w fun x w' => x = .returned (.tuple #[.int .u64 (rdR bs n m2 addr size).1, .bool (rdR bs n m2 addr size).2]) ∧ w = w' := mref_Read h.mr addr size ha0 ha1 hs0 hs1
end
theorem readE_st4 {s : Eg} (h : s.st < 4) : readE s 32 4 = s.st := by
  have hf : fitsE 32 4 = true := by decide
  unfold readE regE
  rw [hf, if_pos rfl, if_neg (by decide)]
  show s.st / 2 ^ (8 * (32 % 8)) % 4294967296 = s.st
  rw [show (2 : Nat) ^ (8 * (32 % 8)) = 1 from rfl]
  omega
/-- behind j eights of a copy -/
structure CopyI (a b k j : Nat) (s : Eg) : Prop where
  r : RunE a b k s
  st : s.st = if 8 * j < k then 1 else 2
  cp : 8 * j < k → s.cp = 8 * j
theorem CopyI.beg {a b k : Nat} (hr : rightE a b k = true) : CopyI a b k 0 (begE a b k) := by
  have hk : 0 < k := by unfold rightE at hr; exact (of_decide_eq_true hr).1
  refine ⟨RunE.beg a b k, ?_, fun _ => by rw [begE_eq]⟩
  rw [begE_st, if_pos hr, if_pos (by omega)]
theorem CopyI.step {a b k j n : Nat} {s : Eg} (h : CopyI a b k j s) (hj : 8 * j < k) (hk : k % 8 = 0) (hf : fitJ 0 n a b j = true) : CopyI a b k (j + 1) (stepS 0 n s) ∧ stepR 0 n s = (0, 0, false) := by
  have hs : s.st = 1 := by rw [h.st, if_pos hj]
  obtain ⟨h1, h2⟩ := run_go h.r hs (h.cp hj) hf
  refine ⟨⟨h.r.step, ?_, fun hl => ?_⟩, h2⟩
  · rw [h1]
    by_cases hl : 8 * j + 8 < k
    · rw [if_pos hl, if_pos (by omega)]; exact hs
    · rw [if_neg hl, if_neg (by omega)]
  · rw [h1, if_pos (by omega)]
    show 8 * j + 8 = 8 * (j + 1)
    omega
theorem putE_zero : putE eg0 0 0 = eg0 := by
  unfold putE eg0
  congr 1
  funext x
  simp
theorem tellE2 (b k : Nat) : writeE (writeE eg0 8 8 b) 16 8 k = toldE 0 b k := by
  have := tellE 0 b k
  rwa [show writeE eg0 0 8 0 = eg0 from by unfold writeE setE; simp [fitsE, putE_zero]] at this
/-- is it a stop -/
def stopE (off : Nat) (size : Int) (v : Nat) : Bool := (size == 4 || size == 8) && (off : Int) == 24 && decide (v / 2 % 2 = 1)
theorem write_run {s : Eg} (hs : s.st = 1) (off : Nat) (size : Int) (v : Nat) : writeE s off size v = if stopE off size v then { s with st := 0 } else s := by
  unfold stopE
  by_cases h24 : off = 24
  · subst h24
    by_cases hz : size = 4 ∨ size = 8
    · rw [wr24 s size hz v]
      unfold cmdE
      rw [if_pos hs]
      rcases hz with rfl | rfl <;> by_cases hv : v / 2 % 2 = 1 <;> simp [hv]
    · have hz1 : (size == 4) = false := by simp; omega
      have hz2 : (size == 8) = false := by simp; omega
      unfold writeE fitsE
      simp [hz1, hz2]
  · have h1 : ((off : Int) == 24) = false := by simp; omega
    rw [h1]
    simp only [Bool.and_false, Bool.false_and]
    unfold writeE
    split
    · rename_i hf
      by_cases h3 : off / 8 * 8 = 24
      · rw [if_pos h3]; rfl
      · rw [if_neg h3]
        by_cases h4 : off / 8 * 8 = 32
        · rw [if_pos h4]; rfl
        · rw [if_neg h4]; rfl
    · rfl
theorem cmd_stop {s : Eg} (hs : s.st = 1) : cmdE s 2 = { s with st := 0 } := by
  unfold cmdE
  rw [if_pos hs]
  rfl
end Go.Proofs.Ytonhlgfgbdiapaa
