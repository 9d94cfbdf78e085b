import Derived.Test.YtlgcplekcmocbaaIoG
import Derived.Test.YtlgcplekcmocbaaLaw3
/- IommuDrops: what its table says; the cells of it; accesses that are let, and that are not. -/
namespace Go.Proofs.Ytlgcplekcmocbaa
set_option linter.unusedVariables false
set_option linter.unusedSimpArgs false
open Go.RowKit
set_option maxRecDepth 100000

def cellC (x : Int × Nat) : List Value := [.int .i64 x.1, .int .u64 (x.2 : Int)]
def cellsC (l : List (Int × Nat)) : List Value := l.flatMap cellC
theorem cellsC_snoc (l : List (Int × Nat)) (x : Int × Nat) : cellsC (l ++ [x]) = cellsC l ++ cellC x := by simp [cellsC]
theorem cellsC_at : ∀ (l : List (Int × Nat)) (k : Nat) (x : Int × Nat), l[k]? = some x → (cellsC l)[k * 2]? = some (.int .i64 x.1) ∧ (cellsC l)[k * 2 + 1]? = some (.int .u64 (x.2 : Int)) := by
  intro l
  induction l with
  | nil => intro k t h; cases h
  | cons y l ih =>
    intro k t h
    cases k with
    | zero =>
      simp at h; subst h
      exact ⟨rfl, rfl⟩
    | succ k =>
      have hk := ih k t (by simpa using h)
      have e : ∀ j, (cellsC (y :: l))[(k + 1) * 2 + j]? = (cellsC l)[k * 2 + j]? := by
        intro j
        show (cellC y ++ cellsC l)[(k + 1) * 2 + j]? = _
        rw [List.getElem?_append_right (by simp [cellC]; omega)]
        congr 1
        simp [cellC]; omega
      exact ⟨(e 0).trans hk.1, (e 1).trans hk.2⟩
theorem CellsAt.of_rw {own : Nat → Nat} {d : Nat} {w : World} {v : Value} {cs : List (Int × Nat)} (h : Rw 57 2 own d w v cs.length (cellsC cs)) : CellsAt w v cs := by
  obtain ⟨A, cap, hv, _, hf⟩ := h.form
  refine ⟨A, cap, hv, fun hl => ?_⟩
  obtain ⟨g, o, hA, _, hg, _, hc⟩ := hf hl
  refine ⟨g, o, hA, hg, fun k x hx => ?_⟩
  obtain ⟨h1, h2⟩ := cellsC_at cs k x hx
  have e1 := hc _ _ h1
  have e2 := hc _ _ h2
  rw [← Nat.add_assoc] at e2
  exact ⟨e1, e2⟩
/-- the cells, k of the last page of tables -/
def csD (k : Nat) : List (Int × Nat) := ([(512, 2049), (1024, 3073)] : List (Int × Nat)) ++ (List.range k).map (fun i : Nat => ((1536 + (i : Int), i * 1024 + 223) : Int × Nat))
theorem csD_len (k : Nat) : (csD k).length = 2 + k := by simp [csD]; omega
theorem csD_succ (k : Nat) : csD (k + 1) = csD k ++ [(1536 + (k : Int), k * 1024 + 223)] := by simp [csD, List.range_succ]
theorem csD_tab : ∀ k, k ≤ 8 → Tab (cellsM 8 (fun _ => 0) (csD k)) ∧ ∀ i, i < k → ent (cellsM 8 (fun _ => 0) (csD k)) 3 i = i * 1024 + 223 := by
  intro k
  induction k with
  | zero =>
    intro _
    have e : cellsM 8 (fun _ => 0) (csD 0) = put (put (fun _ => 0) (1 * 4096 + 8 * 0) 8 ((2049 : Nat) : Int)) (2 * 4096 + 8 * 0) 8 ((3073 : Nat) : Int) := rfl
    rw [e]
    refine ⟨⟨?_, ?_⟩, fun i hi => by omega⟩
    · rw [ent_far _ _ _ _ _ (by omega), ent_put _ _ _ _ (by decide)]
    · rw [ent_put _ _ _ _ (by decide)]
  | succ k ih =>
    intro hk
    obtain ⟨h1, h2⟩ := ih (by omega)
    have e : cellsM 8 (fun _ => 0) (csD (k + 1)) = put (cellsM 8 (fun _ => 0) (csD k)) (3 * 4096 + 8 * k) 8 ((k * 1024 + 223 : Nat) : Int) := by
      rw [csD_succ, cellsM_snoc]
      unfold cellM
      rw [show 8 * ((1536 + (k : Int)) % ((512 * 8 : Nat) : Int)).toNat = 3 * 4096 + 8 * k from by omega]
    rw [e]
    refine ⟨⟨?_, ?_⟩, fun i hi => ?_⟩
    · rw [ent_far _ _ _ _ _ (by omega), h1.a]
    · rw [ent_far _ _ _ _ _ (by omega), h1.b]
    · rcases Nat.lt_or_ge i k with hlt | hge
      · rw [ent_far _ _ _ _ _ (by omega), h2 i hlt]
      · obtain rfl : i = k := by omega
        rw [ent_put _ _ _ _ (by omega)]
theorem csD_b (k : Nat) (hk : k ≤ 8) : ∀ x ∈ csD k, -9223372036854775808 ≤ x.1 ∧ x.1 ≤ 9223372036854775807 ∧ x.2 < 18446744073709551616 := by
  intro x hx
  unfold csD at hx
  rcases List.mem_append.1 hx with hx | hx
  · simp only [List.mem_cons, List.not_mem_nil, or_false] at hx
    rcases hx with rfl | rfl <;> decide
  · obtain ⟨i, hi, rfl⟩ := List.mem_map.1 hx
    have := List.mem_range.1 hi
    exact ⟨by show -9223372036854775808 ≤ 1536 + (i : Int); omega, by show 1536 + (i : Int) ≤ 9223372036854775807; omega, by show i * 1024 + 223 < _; omega⟩
/-- the table of the law -/
structure TabD (m : Nat → Int) : Prop where
  t : Tab m
  e : ∀ i, i < 8 → ent m 3 i = i * 1024 + 223
theorem TabD.acc {m : Nat → Int} (h : TabD m) {s : Us} {d : Nat} (hd : d < 8) (hr : s.rt d = 1) (a : Nat) (ha : a < 4096) (wr : Bool) : accTT 8 m s (d : Int) (a * 8) 8 wr = (a * 8, 0) := by
  have := acc_tab h.t (s := s) (d := d) (i := a / 512) (n := a / 512) (b := 223) (o := a % 512) hd hr (by omega) (by omega) (by omega) (by decide) (h.e _ (by omega)) wr
  rw [show a / 512 * 4096 + a % 512 * 8 = a * 8 from by omega, if_pos (by cases wr <;> decide), if_pos (by omega)] at this
  exact this
section
variable {w0 w w' : World} {own own' : Nat → Nat} {p q rp tp p2 xo r : Nat} {s : Us} {m : Nat → Int} {l : List Tr} {RT : Nat → Nat}
theorem S1.good (h : S1 w0 own w p q rp tp p2 xo r s m l) (ht : TabD m) (hl : SoundL 8 m RT l) (hrt : s.rt = RT) (hrd : s.rd = false) (d : Nat) (hd : d < 8) (hr : RT d = 1) (a : Nat) (ha : a < 4096) (wr : Bool) :
    Calls Try.prog 19 #[.pointer (some ⟨p, 0, none⟩), .int .i64 (d : Int), .int .u64 ((a * 8 : Nat) : Int), .int .i64 8, .bool wr] w fun e w' => e = .returned (.tuple #[.int .u64 ((a * 8 : Nat) : Int), .bool true]) ∧
      ∃ own' s' l', S1 w0 own' w' p q rp tp p2 xo r s' m l' ∧ SoundL 8 m RT l' ∧ s'.rt = RT ∧ s'.rd = false := by
  have hA := h.a.acc (by decide) d (a * 8) (by omega) 8 (by decide) (by decide) wr
  have hs1 := accA_sound (n := 8) h.a.mm.bd (s := s) (l := l) (by rw [hrt]; exact hl) r d (a * 8) 8 wr
  rw [ht.acc hd (by rw [hrt]; exact hr) a ha wr] at hs1
  generalize accA 8 m s r l d (a * 8) 8 wr = RA at *
  obtain ⟨PA, KD, LA⟩ := RA
  simp only [] at hs1 hA
  obtain ⟨rfl, rfl⟩ : PA = a * 8 ∧ KD = 0 := by have := hs1.1; cases this; exact ⟨rfl, rfl⟩
  refine hA.mono ?_
  rintro e w1 ⟨rfl, own1, hS, hB⟩
  exact ⟨rfl, own1, _, LA, by have := h.step hS hB; exact this, by rw [← hrt]; exact hs1.2, hrt, hrd⟩
theorem S1.bad (h : S1 w0 own w p q rp tp p2 xo r s m l) (hl : SoundL 8 m RT l) (hrt : s.rt = RT) (hrd : s.rd = false) (d : Nat) (hd : d < 8) (hr : RT d = 0) (a : Nat) (ha : a < 4096) (wr : Bool) :
    Calls Try.prog 19 #[.pointer (some ⟨p, 0, none⟩), .int .i64 (d : Int), .int .u64 ((a * 8 : Nat) : Int), .int .i64 8, .bool wr] w fun e w' => e = .returned (.tuple #[.int .u64 0, .bool false]) ∧
      ∃ own' s' l', S1 w0 own' w' p q rp tp p2 xo r s' m l' ∧ SoundL 8 m RT l' ∧ s'.rt = RT ∧ s'.rd = false := by
  have hA := h.a.acc (by decide) d (a * 8) (by omega) 8 (by decide) (by decide) wr
  have e0 : accA 8 m s r l (d : Int) (a * 8) 8 wr = (0, 1, l) := by
    unfold accA
    rw [if_neg (by unfold wellA; rw [show okS 8 = true from rfl]; simp), if_pos (by unfold rootP; rw [if_pos (by omega), hrt]; simpa using hr)]
  rw [e0] at hA
  simp only [] at hA
  refine hA.mono ?_
  rintro e w1 ⟨rfl, own1, hS, hB⟩
  rw [accMt_noring hrd] at hB
  exact ⟨rfl, own1, _, l, h.step hS hB, hl, (accSt_rt _ _ _).trans hrt, (accSt_rd _ _ _).trans hrd⟩
theorem Sd.drop {K : Nat} (h : Sd K own w p rp tp r s m l) (d : Nat) (hd : d < 8) :
    Calls Try.prog 20 #[.pointer (some ⟨p, 0, none⟩), .int .i64 (d : Int)] w fun e w' => e = .returned (.int .i64 0) ∧ ∃ own', Step (fun x => K < x ∧ x ≤ K + 4) own w own' w' ∧ Sd K own' w' p rp tp r (usRt s d 0) m l := by
  refine (io_Drop h.u d hd).mono ?_
  rintro e w1 ⟨rfl, hS, hU⟩
  exact ⟨rfl, own, hS.mono (fun _ h => by omega), hU, h.mm.step hS (by omega), h.t.step hS (by omega) (by omega), h.ok.kRt d 0 (by decide), h.el⟩
end
/-- a table taken away, and its entries -/
theorem SoundL.drop {n : Nat} {m : Nat → Int} {s : Us} {l : List Tr} (h : SoundL n m s.rt l) (d : Nat) : SoundL n m (usRt s d 0).rt (flushT l d) := by
  intro t ht
  obtain ⟨h1, h2⟩ := List.mem_filter.1 ht
  obtain ⟨d', a, acc, hd, hacc, hr, hv, r⟩ := h t h1
  have hne : d' ≠ d := fun e => by subst e; simp [hv] at h2
  have e : (usRt s d 0).rt d' = s.rt d' := by show (if d' = d then 0 else s.rt d') = _; rw [if_neg hne]
  exact ⟨d', a, acc, hd, hacc, by rw [e]; exact hr, hv, by rw [e]; exact r⟩
end Go.Proofs.Ytlgcplekcmocbaa
