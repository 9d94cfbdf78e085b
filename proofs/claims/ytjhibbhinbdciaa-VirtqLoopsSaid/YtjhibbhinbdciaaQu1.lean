import Derived.Test.YtjhibbhinbdciaaMemC
import Derived.Test.YtjhibbhinbdciaaRow
import Derived.Test.YtjhibbhinbdciaaUp1
import Derived.Test.YtjhibbhinbdciaaTwo
import Derived.Test.YtjhibbhinbdciaaMrR
import Derived.BigQuiet
import Derived.Laws.Cover1
/- A virtqueue: its cells; New, Setup, Ready, Dead, Reset, usable. -/
namespace Go.Proofs.Ytjhibbhinbdciaa
set_option linter.unusedVariables false
set_option linter.unusedSimpArgs false
open Go.RowKit
set_option maxRecDepth 100000
structure Qu where
  rd : Bool
  de : Bool
  sz : Nat
  ds : Nat
  av : Nat
  us : Nat
  tk : Nat
  gv : Nat
def qu0 : Qu := ⟨false, false, 0, 0, 0, 0, 0, 0⟩
def quC (q : Qu) : Array Value := #[.bool q.rd, .bool q.de, .int .u64 (q.sz : Int), .int .u64 (q.ds : Int), .int .u64 (q.av : Int), .int .u64 (q.us : Int), .int .u16 (q.tk : Int), .int .u16 (q.gv : Int)]
def QAt (own : Nat → Nat) (c : Nat) (w : World) (p : Nat) (q : Qu) : Prop := Blk w p 82 (quC q) ∧ own p = c
section
variable {own own' : Nat → Nat} {c p : Nat} {w w' : World} {q : Qu}
theorem QAt.step {C : Nat → Prop} (h : QAt own c w p q) (hS : Step C own w own' w') (hc : ¬ C c) : QAt own' c w' p q := hS.blk h.1 h.2 hc
theorem QAt.cells (h : QAt own c w p q) : w.cell? ⟨p, 0, none⟩ = some (.bool q.rd) ∧ w.cell? ⟨p, 1, none⟩ = some (.bool q.de) ∧ w.cell? ⟨p, 2, none⟩ = some (.int .u64 (q.sz : Int)) ∧ w.cell? ⟨p, 3, none⟩ = some (.int .u64 (q.ds : Int)) ∧
    w.cell? ⟨p, 4, none⟩ = some (.int .u64 (q.av : Int)) ∧ w.cell? ⟨p, 5, none⟩ = some (.int .u64 (q.us : Int)) ∧ w.cell? ⟨p, 6, none⟩ = some (.int .u16 (q.tk : Int)) ∧ w.cell? ⟨p, 7, none⟩ = some (.int .u16 (q.gv : Int)) :=
  ⟨h.1.cell 0, h.1.cell 1, h.1.cell 2, h.1.cell 3, h.1.cell 4, h.1.cell 5, h.1.cell 6, h.1.cell 7⟩
theorem q_New (own : Nat → Nat) (c : Nat) (w : World) : Calls Try.prog 11 #[] w fun e w' => ∃ p own', e = .returned (.pointer (some ⟨p, 0, none⟩)) ∧ Step (fun _ => False) own w own' w' ∧ QAt own' c w' p qu0 := by
  go_enter Try.func11, Try.ntmps11
  go_wp2
  go_ret
  exact ⟨_, ext own w c, rfl, ⟨(Upd.refl _ _).alloc _, fun b hb => ext_old _ _ _ hb⟩, Blk.new _ _ _, ext_new _ _ _ (Nat.le_refl _)⟩
theorem q_Ready (h : QAt own c w p q) : Calls Try.prog 21 #[.pointer (some ⟨p, 0, none⟩)] w fun e w' => e = .returned (.bool q.rd) ∧ w' = w := by
  obtain ⟨c0, _⟩ := h.cells
  clear h
  go_enter Try.func21, Try.ntmps21
  go_wp2
  go_ret
  exact ⟨rfl, rfl⟩
theorem q_Dead (h : QAt own c w p q) : Calls Try.prog 20 #[.pointer (some ⟨p, 0, none⟩)] w fun e w' => e = .returned (.bool q.de) ∧ w' = w := by
  obtain ⟨_, c1, _⟩ := h.cells
  clear h
  go_enter Try.func20, Try.ntmps20
  go_wp2
  go_ret
  exact ⟨rfl, rfl⟩
/-- why it cannot be used -/
def usQ (q : Qu) : Int := if q.rd = true then (if q.de = true then 33 else 0) else 30
theorem q_usable (h : QAt own c w p q) : Calls Try.prog 37 #[.pointer (some ⟨p, 0, none⟩)] w fun e w' => e = .returned (.int .i64 (usQ q)) ∧ w' = w := by
  obtain ⟨c0, c1, _⟩ := h.cells
  obtain ⟨rd, de, sz, ds, av, us, tk, gv⟩ := q
  clear h
  cases rd
  · go_enter Try.func37, Try.ntmps37
    go_wp2
    go_ret
    exact ⟨rfl, rfl⟩
  · cases de
    · go_enter Try.func37, Try.ntmps37
      go_wp2
      go_ret
      exact ⟨rfl, rfl⟩
    · go_enter Try.func37, Try.ntmps37
      go_wp2
      go_ret
      exact ⟨rfl, rfl⟩
theorem QAt.frz (h : QAt own c w p q) : w.frozen? ⟨p, 0, none⟩ = false ∧ w.frozen? ⟨p, 1, none⟩ = false ∧ w.frozen? ⟨p, 2, none⟩ = false ∧ w.frozen? ⟨p, 3, none⟩ = false ∧ w.frozen? ⟨p, 4, none⟩ = false ∧ w.frozen? ⟨p, 5, none⟩ = false ∧ w.frozen? ⟨p, 6, none⟩ = false ∧ w.frozen? ⟨p, 7, none⟩ = false :=
  ⟨h.1.frozen 0, h.1.frozen 1, h.1.frozen 2, h.1.frozen 3, h.1.frozen 4, h.1.frozen 5, h.1.frozen 6, h.1.frozen 7⟩
/-- all cells are written -/
theorem QAt.all (h : QAt own c w p q) (q' : Qu) : QAt own c (w.setRow p (quC q')) p q' ∧ Step (· = c) own w own (w.setRow p (quC q')) :=
  ⟨⟨h.1.setRow _, h.2⟩, ⟨(Upd.refl (fun b => own b = c) w).setRow (g := p) (.inl h.2) _, fun _ _ => rfl⟩⟩
theorem quInfo : (Try.prog.info? 82).map (·.size) = some 8 := by kernel_rfl
theorem wpList_storeQ {ops : Array Oper} {Q : Exit → Act → World → Prop} {a : Act} {rest : List Oper} {o : Oper} (hg : o.guard = none) (x y : Operand) (hop : o.op = .store 82 x y) (h : QAt own c w p q) (hx : a.eval x = .pointer (some ⟨p, 0, none⟩)) (q' : Qu) (hy : a.eval y = .agg (quC q'))
    (hK : QAt own c (w.setRow p (quC q')) p q' → Step (· = c) own w own (w.setRow p (quC q')) → wpList Try.prog ops Q rest (a.put o.dst undef) (w.setRow p (quC q'))) : wpList Try.prog ops Q (o :: rest) a w :=
  wpList_plain hg fun _ hKK => wp_store_row _ x y hop p _ hx hy _ (quC q) h.1 quInfo rfl (by simp [quC, Value.oneCell']) (hKK _ _ (hK (h.all q').1 (h.all q').2))
theorem q_Reset (h : QAt own c w p q) : Calls Try.prog 22 #[.pointer (some ⟨p, 0, none⟩)] w fun e w' => e = .returned (.tuple #[]) ∧ Step (· = c) own w own w' ∧ QAt own c w' p qu0 := by
  have H := Lib.hid h
  clear h
  go_enter Try.func22, Try.ntmps22
  go_wp2_with ((with_reducible show wpList _ _ _ ((⟨none, _, _, _, _, _⟩ : Oper) :: _) _ _); refine wpList_storeQ rfl _ _ rfl H.out rfl qu0 rfl (fun h1 h2 => ?_))
  have H1 := Lib.hid (And.intro h2 h1)
  clear h1 h2
  go_wp2
  go_end0
  exact ⟨rfl, H1.out⟩
/-- what a queue may be set up with -/
def okSet (size : Int) (d a u : Nat) : Bool := decide (size = 1 ∨ size = 2 ∨ size = 4 ∨ size = 8 ∨ size = 16 ∨ size = 32 ∨ size = 64) && (decide (d % 16 = 0) && (decide (a % 2 = 0) && (decide (u % 4 = 0) && decide (d < 1152921504606846976 ∧ a < 1152921504606846976 ∧ u < 1152921504606846976))))
end
theorem pow_and : ∀ s : Fin 65, 1 ≤ s.val → ((bits .and .i64 (s.val : Int) ((s.val : Int) - 1) != 0) = !decide ((s.val : Int) = 1 ∨ (s.val : Int) = 2 ∨ (s.val : Int) = 4 ∨ (s.val : Int) = 8 ∨ (s.val : Int) = 16 ∨ (s.val : Int) = 32 ∨ (s.val : Int) = 64)) := by decide +kernel
section
variable {own : Nat → Nat} {c p : Nat} {w : World} {q : Qu}
def setQ (q : Qu) (size : Int) (d a u : Nat) : Qu := if (!q.rd && okSet size d a u) = true then ⟨true, false, size.toNat, d, a, u, 0, 0⟩ else q
def setR (q : Qu) (size : Int) (d a u : Nat) : Int := if (!q.rd && okSet size d a u) = true then 0 else 1
set_option maxHeartbeats 4000000 in
theorem q_Setup (h : QAt own c w p q) (size : Int) (d a u : Nat) (hs : -9223372036854775808 ≤ size ∧ size ≤ 9223372036854775807) (hd : d < 18446744073709551616) (ha : a < 18446744073709551616) (hu : u < 18446744073709551616) :
    Calls Try.prog 13 #[.pointer (some ⟨p, 0, none⟩), .int .i64 size, .int .u64 (d : Int), .int .u64 (a : Int), .int .u64 (u : Int)] w fun e w' => e = .returned (.int .i64 (setR q size d a u)) ∧ Step (· = c) own w own w' ∧ QAt own c w' p (setQ q size d a u) := by
  obtain ⟨c0, _⟩ := h.cells
  obtain ⟨B, hB⟩ : ∃ B, (!q.rd && okSet size d a u) = B := ⟨_, rfl⟩
  obtain ⟨rd, hrd⟩ : ∃ r, q.rd = r := ⟨_, rfl⟩
  have e1 : setR q size d a u = if B = true then 0 else 1 := by unfold setR; rw [hB]
  have e2 : setQ q size d a u = if B = true then ⟨true, false, size.toNat, d, a, u, 0, 0⟩ else q := by unfold setQ; rw [hB]
  rw [e1, e2]
  rw [hrd] at hB c0
  have HB := Lib.hid hB
  have H := Lib.hid h
  clear hB h e1 e2 hrd
  go_enter Try.func13, Try.ntmps13
  go_upto_region 1 with fail
  go_cut [51] (fun s51 wx => s51 = .bool (!B) ∧ wx = w)
  case first =>
    cases rd with
    | true =>
      go_wp2
      go_meet
      exact ⟨by rw [← HB.out]; rfl, rfl⟩
    | false =>
      by_cases h1 : size < 1
      · have HF := Lib.hid (show B = false by rw [← HB.out]; unfold okSet; rw [decide_eq_false (by omega)]; rfl)
        go_wp2
        go_meet
        exact ⟨by rw [HF.out]; rfl, rfl⟩
      · by_cases h2 : 64 < size
        · have HF := Lib.hid (show B = false by rw [← HB.out]; unfold okSet; rw [decide_eq_false (by omega)]; rfl)
          go_wp2
          go_meet
          exact ⟨by rw [HF.out]; rfl, rfl⟩
        · obtain ⟨s, rfl⟩ := Int.eq_ofNat_of_zero_le (show 0 ≤ size by omega)
          have hw : wrap64 ((s : Int) - 1) = (s : Int) - 1 := IntWalk.wrap64_in _ (by omega)
          obtain ⟨PW, hPW⟩ : ∃ b, decide ((s : Int) = 1 ∨ (s : Int) = 2 ∨ (s : Int) = 4 ∨ (s : Int) = 8 ∨ (s : Int) = 16 ∨ (s : Int) = 32 ∨ (s : Int) = 64) = b := ⟨_, rfl⟩
          have hpw : (bits .and .i64 (s : Int) ((s : Int) - 1) != 0) = !PW := by rw [← hPW]; exact pow_and ⟨s, by omega⟩ (by show 1 ≤ s; omega)
          have hok : okSet (s : Int) d a u = (PW && (decide (d % 16 = 0) && (decide (a % 2 = 0) && (decide (u % 4 = 0) && decide (d < 1152921504606846976 ∧ a < 1152921504606846976 ∧ u < 1152921504606846976))))) := by rw [← hPW]; rfl
          have HO := Lib.hid (show (PW && (decide (d % 16 = 0) && (decide (a % 2 = 0) && (decide (u % 4 = 0) && decide (d < 1152921504606846976 ∧ a < 1152921504606846976 ∧ u < 1152921504606846976))))) = B by rw [← hok]; exact HB.out)
          have t1 : Int.tmod (d : Int) 16 = ((d % 16 : Nat) : Int) := by rw [Int.tmod_eq_emod_of_nonneg (by omega)]; omega
          have t2 : Int.tmod (a : Int) 2 = ((a % 2 : Nat) : Int) := by rw [Int.tmod_eq_emod_of_nonneg (by omega)]; omega
          have t3 : Int.tmod (u : Int) 4 = ((u % 4 : Nat) : Int) := by rw [Int.tmod_eq_emod_of_nonneg (by omega)]; omega
          clear hok hPW HB
          cases PW with
          | false =>
            have HF := Lib.hid (show B = false by rw [← HO.out]; rfl)
            go_wp2
            go_meet
            exact ⟨by rw [HF.out]; rfl, rfl⟩
          | true =>
            by_cases h3 : d % 16 = 0
            · by_cases h4 : a % 2 = 0
              · by_cases h5 : u % 4 = 0
                · by_cases h6 : d < 1152921504606846976 ∧ a < 1152921504606846976 ∧ u < 1152921504606846976
                  · have HF := Lib.hid (show B = true by rw [← HO.out, decide_eq_true h3, decide_eq_true h4, decide_eq_true h5, decide_eq_true h6]; rfl)
                    obtain ⟨M1, hM1⟩ : ∃ M : Int, (if d < a then (a : Int) else (d : Int)) = M := ⟨_, rfl⟩
                    have hMb : (d : Int) ≤ M1 ∧ (a : Int) ≤ M1 ∧ (M1 = d ∨ M1 = a) := by rw [← hM1]; split <;> omega
                    by_cases hx : M1 < (u : Int)
                    · have HX := Lib.hid (show decide ((1152921504606846976 : Int) ≤ (u : Int)) = false from decide_eq_false (by omega))
                      clear hMb h6
                      go_wp2
                      go_meet
                      exact ⟨by rw [HF.out]; first | rw [HX.out]; rfl | rfl, rfl⟩
                    · have HX := Lib.hid (show decide ((1152921504606846976 : Int) ≤ M1) = false from decide_eq_false (by omega))
                      clear hMb h6
                      go_wp2
                      go_meet
                      exact ⟨by rw [HF.out]; first | rw [HX.out]; rfl | rfl, rfl⟩
                  · have HF := Lib.hid (show B = false by rw [← HO.out, decide_eq_false h6]; simp)
                    obtain ⟨M1, hM1⟩ : ∃ M : Int, (if d < a then (a : Int) else (d : Int)) = M := ⟨_, rfl⟩
                    have hMb : (d : Int) ≤ M1 ∧ (a : Int) ≤ M1 ∧ (M1 = d ∨ M1 = a) := by rw [← hM1]; split <;> omega
                    by_cases hx : M1 < (u : Int)
                    · have HX := Lib.hid (show decide ((1152921504606846976 : Int) ≤ (u : Int)) = true from decide_eq_true (by omega))
                      clear hMb h6
                      go_wp2
                      go_meet
                      exact ⟨by rw [HF.out]; first | rw [HX.out]; rfl | rfl, rfl⟩
                    · have HX := Lib.hid (show decide ((1152921504606846976 : Int) ≤ M1) = true from decide_eq_true (by omega))
                      clear hMb h6
                      go_wp2
                      go_meet
                      exact ⟨by rw [HF.out]; first | rw [HX.out]; rfl | rfl, rfl⟩
                · have HF := Lib.hid (show B = false by rw [← HO.out, decide_eq_false h5]; simp)
                  go_wp2
                  go_meet
                  exact ⟨by rw [HF.out]; rfl, rfl⟩
              · have HF := Lib.hid (show B = false by rw [← HO.out, decide_eq_false h4]; simp)
                go_wp2
                go_meet
                exact ⟨by rw [HF.out]; rfl, rfl⟩
            · have HF := Lib.hid (show B = false by rw [← HO.out, decide_eq_false h3]; simp)
              go_wp2
              go_meet
              exact ⟨by rw [HF.out]; rfl, rfl⟩
  case rest =>
    obtain ⟨rfl, rfl⟩ := hcut
    cases B with
    | false =>
      have HE := Lib.hid (And.intro (Step.refl (· = c) own wc) H.out)
      go_wp2
      go_ret
      exact ⟨rfl, HE.out⟩
    | true =>
      have hsz : 0 ≤ size ∧ size < 9223372036854775807 := by
        have := HB.out
        cases rd
        · unfold okSet at this
          simp at this
          omega
        · cases this
      obtain ⟨s, rfl⟩ := Int.eq_ofNat_of_zero_le hsz.1
      clear hs
      go_wp2_with ((with_reducible show wpList _ _ _ ((⟨none, _, _, _, _, _⟩ : Oper) :: _) _ _); refine wpList_storeQ rfl _ _ rfl H.out rfl ⟨true, false, s, d, a, u, 0, 0⟩ rfl (fun h1 h2 => ?_))
      have H1 := Lib.hid (And.intro h2 h1)
      clear h1 h2
      go_wp2
      go_ret
      exact ⟨rfl, H1.out⟩
end
end Go.Proofs.Ytjhibbhinbdciaa
