import Derived.Test.YtonhlgfgbdiapaaGreatEg6
/- The document's engine, plain: its registers; it goes as the program's. -/
namespace Go.Proofs.YtonhlgfgbdiapaaGreat
set_option linter.unusedVariables false
set_option linter.unusedSimpArgs false
open Go.RowKit
def regD (t : Eg) (r : Nat) : Nat := if r = 3 then 0 else if r = 4 then t.st else t.rg (8 * r)
def beginD (t : Eg) : Eg := if badE t then { t with st := 3 } else { t with st := 1, cp := 0 }
def lowV (size : Int) (v : Nat) : Nat := if size = 4 then v % 4294967296 else v
def putD (t : Eg) (off : Nat) (size : Int) (v : Nat) : Nat := if size = 8 then v else if off % 8 = 0 then t.rg (off / 8 * 8) / 4294967296 * 4294967296 + v else t.rg (off / 8 * 8) % 4294967296 + v * 4294967296
def writeD (t : Eg) (off : Nat) (size : Int) (v : Nat) : Eg :=
  if fitsE off size then
    (if t.st = 1 then (if off / 8 = 3 ∧ off % 8 = 0 ∧ lowV size v / 2 % 2 = 1 then { t with st := 0 } else t)
     else if off / 8 = 4 then t
     else if off / 8 = 3 then (if off % 8 = 0 ∧ lowV size v % 2 = 1 then beginD t else if off % 8 = 0 ∧ lowV size v / 2 % 2 = 1 then { t with st := 0 } else t)
     else putE t (off / 8 * 8) (putD t off size (lowV size v)))
  else t
/-- the two go alike -/
structure SimE (s t : Eg) : Prop where
  rg : s.rg = t.rg
  st : s.st = t.st
  cp : s.st = 1 → s.cp = t.cp
theorem SimE.init : SimE eg0 eg0 := ⟨rfl, rfl, fun _ => rfl⟩
theorem fitsE_iff {off : Nat} {size : Int} : fitsE off size = true ↔ ((size = 4 ∨ size = 8) ∧ (off : Int) % size = 0 ∧ off < 56) := by
  unfold fitsE
  simp only [Bool.and_eq_true, Bool.or_eq_true, beq_iff_eq, decide_eq_true_eq]
  constructor
  · exact fun h => ⟨h.1.1, h.1.2, h.2⟩
  · exact fun h => ⟨⟨h.1, h.2.1⟩, h.2.2⟩
theorem lowV_eq {size : Int} (h : size = 4 ∨ size = 8) (v : Nat) : lowV size v % 2 = v % 2 ∧ lowV size v / 2 % 2 = v / 2 % 2 := by
  unfold lowV
  rcases h with rfl | rfl
  · rw [if_pos rfl]; omega
  · rw [if_neg (by decide)]; exact ⟨rfl, rfl⟩
theorem SimE.write {s t : Eg} (h : SimE s t) (off : Nat) (size : Int) (v : Nat) : SimE (writeE s off size v) (writeD t off size v) := by
  unfold writeE writeD
  cases hf : fitsE off size with
  | false => rw [if_neg (by decide), if_neg (by decide)]; exact h
  | true =>
    obtain ⟨hz, hm, ho⟩ := fitsE_iff.1 hf
    obtain ⟨l1, l2⟩ := lowV_eq hz v
    rw [if_pos rfl, if_pos rfl, l1, l2]
    have h8 : size = 8 → off % 8 = 0 := by rintro rfl; omega
    have hb : badE s = badE t := by unfold badE; rw [h.rg]
    by_cases hr : off / 8 = 3
    · rw [if_pos (show off / 8 * 8 = 24 by omega)]
      by_cases hs : s.st = 1
      · rw [if_pos (show t.st = 1 by rw [← h.st]; exact hs)]
        by_cases h24 : off = 24
        · rw [if_pos h24]
          unfold cmdE
          rw [if_pos hs]
          by_cases hv : v / 2 % 2 = 1
          · rw [if_pos hv, if_pos ⟨hr, by omega, hv⟩]
            exact ⟨h.rg, rfl, fun h => by cases h⟩
          · rw [if_neg hv, if_neg (fun h => hv h.2.2)]; exact h
        · rw [if_neg h24, if_neg (fun h => h24 (by omega))]; exact h
      · rw [if_neg (show ¬ t.st = 1 by rw [← h.st]; exact hs), if_neg (show ¬ off / 8 = 4 by omega), if_pos hr]
        by_cases h24 : off = 24
        · rw [if_pos h24]
          unfold cmdE beginD
          have ho8 : off % 8 = 0 := by omega
          rw [if_neg hs, hb]
          simp only [ho8, true_and]
          by_cases hv : v % 2 = 1
          · rw [if_pos hv, if_pos hv]
            cases badE t
            · exact ⟨h.rg, rfl, fun _ => rfl⟩
            · exact ⟨h.rg, rfl, fun h => by cases h⟩
          · rw [if_neg hv, if_neg hv]
            by_cases hv2 : v / 2 % 2 = 1
            · rw [if_pos hv2, if_pos hv2]
              exact ⟨h.rg, rfl, fun h => by cases h⟩
            · rw [if_neg hv2, if_neg hv2]; exact h
        · rw [if_neg h24, if_neg (fun h => h24 (by omega)), if_neg (fun h => h24 (by omega))]; exact h
    · rw [if_neg (show ¬ off / 8 * 8 = 24 by omega)]
      by_cases hr4 : off / 8 = 4
      · rw [if_pos (show off / 8 * 8 = 32 by omega)]
        by_cases hs : s.st = 1
        · rw [if_pos (show t.st = 1 by rw [← h.st]; exact hs), if_neg (fun h => hr h.1)]; exact h
        · rw [if_neg (show ¬ t.st = 1 by rw [← h.st]; exact hs), if_pos hr4]; exact h
      · rw [if_neg (show ¬ off / 8 * 8 = 32 by omega)]
        by_cases hs : s.st = 1
        · rw [if_pos hs, if_pos (show t.st = 1 by rw [← h.st]; exact hs), if_neg (fun h => hr h.1)]; exact h
        · rw [if_neg hs, if_neg (show ¬ t.st = 1 by rw [← h.st]; exact hs), if_neg hr4, if_neg hr]
          have he : setE (s.rg (off / 8 * 8)) off size v = putD t off size (lowV size v) := by
            unfold setE putD lowV
            rw [h.rg]
            rcases hz with rfl | rfl <;> simp
          rw [he]
          refine ⟨?_, h.st, h.cp⟩
          show (fun x => if x = _ then _ else s.rg x) = fun x => if x = _ then _ else t.rg x
          rw [h.rg]
theorem SimE.read {s t : Eg} (h : SimE s t) (off : Nat) (size : Int) : readE s off size = readE t off size := by unfold readE regE; rw [h.rg, h.st]
theorem SimE.next {s t : Eg} (h : SimE s t) (o1 o2 : Bool) : SimE (nextE s o1 o2) (nextE t o1 o2) := by
  unfold nextE
  by_cases hs : s.st = 1
  · rw [if_pos hs, if_pos (show t.st = 1 by rw [← h.st]; exact hs)]
    have hc := h.cp hs
    split
    · rw [hc, h.rg]
      split
      · exact ⟨rfl, h.st, fun _ => rfl⟩
      · exact ⟨rfl, rfl, fun _ => rfl⟩
    · exact ⟨h.rg, rfl, fun h => by cases h⟩
  · rw [if_neg hs, if_neg (show ¬ t.st = 1 by rw [← h.st]; exact hs)]; exact h
theorem SimE.which {s t : Eg} (h : SimE s t) (o1 o2 : Bool) : whichE s o1 o2 = whichE t o1 o2 := by
  unfold whichE
  rw [(h.next o1 o2).st, h.st, h.rg]
theorem SimE.res {s t : Eg} (h : SimE s t) (o1 o2 : Bool) (R : Nat → Int × Int × Bool) : resE s o1 o2 R = resE t o1 o2 R := by
  unfold resE
  rw [(h.next o1 o2).st, h.st, h.rg]
/-- the document's engine keeps its bounds -/
structure ErOk (t : Eg) : Prop where
  rg : ∀ k, t.rg k < 18446744073709551616
  st : t.st < 4
  cp : t.cp < 18446744073709551616
  run : t.st = 1 → t.cp < t.rg 16 ∧ t.rg 16 ≤ 4096
theorem ErOk.init : ErOk eg0 := ⟨fun k => by show 0 < _; decide, by decide, by decide, fun h => by cases h⟩
theorem SimE.ok {s t : Eg} (h : SimE s t) (hs : EgOk s) (ht : t.cp < 18446744073709551616) : ErOk t :=
  ⟨fun k => by rw [← h.rg]; exact hs.rg k, by rw [← h.st]; exact hs.st, ht, fun e => by have h1 : s.st = 1 := by rw [h.st]; exact e
                                                                                        have := hs.run h1; rw [← h.rg, ← h.cp h1]; omega⟩
theorem writeD_cp {t : Eg} (h : t.cp < 18446744073709551616) (off : Nat) (size : Int) (v : Nat) : (writeD t off size v).cp < 18446744073709551616 := by
  unfold writeD beginD
  repeat' split
  all_goals first | exact h | (show 0 < _; decide)
theorem nextE_cp {t : Eg} (h : ErOk t) (o1 o2 : Bool) : (nextE t o1 o2).cp < 18446744073709551616 := by
  unfold nextE
  split
  · rename_i hs
    have := h.run hs
    split
    · split
      · show t.cp + 8 < _; omega
      · show t.cp + 8 < _; omega
    · exact h.cp
  · exact h.cp
end Go.Proofs.YtonhlgfgbdiapaaGreat
