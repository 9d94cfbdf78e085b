import Derived.Test.YtonhlgfgbdiapaaGreatErP
/- The document's engine: its cells; place, Read, begin. -/
namespace Go.Proofs.YtonhlgfgbdiapaaGreat
set_option linter.unusedVariables false
set_option linter.unusedSimpArgs false
open Go.RowKit
set_option maxRecDepth 100000
def erC (dev : Int) (mv uv : Value) (t : Eg) : Array Value := #[.int .i64 dev, mv, uv, .int .u64 (t.rg 0 : Int), .int .u64 (t.rg 8 : Int), .int .u64 (t.rg 16 : Int), .int .u64 0, .int .u64 (t.st : Int), .int .u64 (t.rg 40 : Int), .int .u64 (t.rg 48 : Int), .int .u64 (t.cp : Int)]
def ErAt (own : Nat → Nat) (c : Nat) (w : World) (q : Nat) (dev : Int) (mv uv : Value) (t : Eg) : Prop := Blk w q 74 (erC dev mv uv t) ∧ own q = c
section
variable {own own' : Nat → Nat} {c q : Nat} {dev : Int} {mv uv : Value} {w w' : World} {t t' : Eg}
theorem ErAt.step {C : Nat → Prop} (h : ErAt own c w q dev mv uv t) (hS : Step C own w own' w') (hc : ¬ C c) : ErAt own' c w' q dev mv uv t := hS.blk h.1 h.2 hc
theorem ErAt.put (h : ErAt own c w q dev mv uv t) (j : Nat) (x : Value) (he : erC dev mv uv t' = (erC dev mv uv t).setIfInBounds j x) : Step (· = c) own w own (w.setCell ⟨q, j, none⟩ x) ∧ ErAt own c (w.setCell ⟨q, j, none⟩ x) q dev mv uv t' :=
  ⟨⟨((Upd.refl (· = q) w).setCell (p := ⟨q, j, none⟩) (.inl rfl) _).mono (fun i _ hi => by rw [hi]; exact h.2), fun _ _ => rfl⟩, by have := h.1.set_ j x; rw [← he] at this; exact ⟨this, h.2⟩⟩
theorem ErAt.reg (h : ErAt own c w q dev mv uv t) (r : Nat) (hr : r < 7) : w.cell? ⟨q, 3 + r, none⟩ = some (.int .u64 (regD t r : Int)) := by
  rw [h.1.cell]
  rcases (show r = 0 ∨ r = 1 ∨ r = 2 ∨ r = 3 ∨ r = 4 ∨ r = 5 ∨ r = 6 by omega) with rfl | rfl | rfl | rfl | rfl | rfl | rfl <;> rfl
theorem ErAt.cells (h : ErAt own c w q dev mv uv t) : w.cell? ⟨q, 0, none⟩ = some (.int .i64 dev) ∧ w.cell? ⟨q, 1, none⟩ = some mv ∧ w.cell? ⟨q, 2, none⟩ = some uv ∧ w.cell? ⟨q, 3, none⟩ = some (.int .u64 (t.rg 0 : Int)) ∧ w.cell? ⟨q, 4, none⟩ = some (.int .u64 (t.rg 8 : Int)) ∧ w.cell? ⟨q, 5, none⟩ = some (.int .u64 (t.rg 16 : Int)) ∧ w.cell? ⟨q, 7, none⟩ = some (.int .u64 (t.st : Int)) ∧ w.cell? ⟨q, 8, none⟩ = some (.int .u64 (t.rg 40 : Int)) ∧ w.cell? ⟨q, 9, none⟩ = some (.int .u64 (t.rg 48 : Int)) ∧ w.cell? ⟨q, 10, none⟩ = some (.int .u64 (t.cp : Int)) ∧ q < w.heap.size :=
  ⟨h.1.cell 0, h.1.cell 1, h.1.cell 2, h.1.cell 3, h.1.cell 4, h.1.cell 5, h.1.cell 7, h.1.cell 8, h.1.cell 9, h.1.cell 10, h.1.lt⟩
theorem ErAt.froz (h : ErAt own c w q dev mv uv t) (j : Nat) : w.frozen? ⟨q, j, none⟩ = false := h.1.frozen j
theorem eref_place (off : Nat) (hoff : off < 18446744073709551616) (size : Int) (hs0 : -9223372036854775808 ≤ size) (hs1 : size ≤ 9223372036854775807) (w : World) :
    Calls Tryz.prog 72 #[.int .u64 (off : Int), .int .i64 size] w fun x w' => x = .returned (.tuple #[.int .i64 (if fitsE off size then ((off / 8 : Nat) : Int) else 0), .int .u64 (if fitsE off size then ((off % 8 : Nat) : Int) else 0), .bool (fitsE off size)]) ∧ w = w' := by
  have e8 : ((off : Int) / 8) = ((off / 8 : Nat) : Int) := by omega
  have m8 : ((off : Int) % 8) = ((off % 8 : Nat) : Int) := by omega
  by_cases hsz : size = 4 ∨ size = 8
  · by_cases hm : (off : Int) % size = 0
    · by_cases hl : off < 56
      · have hf : fitsE off size = true := fitsE_iff.2 ⟨hsz, hm, hl⟩
        rw [hf, if_pos rfl, if_pos rfl, ← e8, ← m8]
        have hl2 : decide ((56 : Int) ≤ (off : Int)) = false := by simp; omega
        have hm2 : ((off : Int) % size != 0) = false := by rw [hm]; rfl
        have h56 : (off : Int) < 56 := by omega
        clear hf e8 m8
        rcases hsz with rfl | rfl
        all_goals
          go_enter Tryz.func72, Tryz.ntmps72
          go_wp2
          go_ret3
          exact ⟨rfl, rfl⟩
      · have hf : fitsE off size = false := by cases h : fitsE off size; rfl; exact absurd (fitsE_iff.1 h).2.2 hl
        rw [hf, if_neg (by decide), if_neg (by decide)]
        have hl2 : decide ((56 : Int) ≤ (off : Int)) = true := by simp; omega
        have hm2 : ((off : Int) % size != 0) = false := by rw [hm]; rfl
        clear hf e8 m8
        rcases hsz with rfl | rfl
        all_goals
          go_enter Tryz.func72, Tryz.ntmps72
          go_wp2
          go_ret3
          exact ⟨rfl, rfl⟩
    · have hf : fitsE off size = false := by cases h : fitsE off size; rfl; exact absurd (fitsE_iff.1 h).2.1 hm
      rw [hf, if_neg (by decide), if_neg (by decide)]
      have hm2 : ((off : Int) % size != 0) = true := by simpa using hm
      clear hf e8 m8
      rcases hsz with rfl | rfl
      all_goals
        go_enter Tryz.func72, Tryz.ntmps72
        go_wp2
        go_ret3
        exact ⟨rfl, rfl⟩
  · have hf : fitsE off size = false := by cases h : fitsE off size; rfl; exact absurd (fitsE_iff.1 h).1 hsz
    rw [hf, if_neg (by decide), if_neg (by decide)]
    have z4 : (size != 4) = true := by simp; omega
    have z8 : (size != 8) = true := by simp; omega
    clear hf e8 m8
    go_enter Tryz.func72, Tryz.ntmps72
    go_wp2
    go_ret3
    exact ⟨rfl, rfl⟩
end
end Go.Proofs.YtonhlgfgbdiapaaGreat
