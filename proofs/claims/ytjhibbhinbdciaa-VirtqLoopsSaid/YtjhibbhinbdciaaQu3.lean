import Derived.Test.YtjhibbhinbdciaaQu2
import Derived.Laws.BitsAllLaws
/- A virtqueue: descriptor. -/
namespace Go.Proofs.Ytjhibbhinbdciaa
set_option linter.unusedVariables false
set_option linter.unusedSimpArgs false
open Go.RowKit
set_option maxRecDepth 100000
/-- a result that is a variable of several cells, and three more -/
theorem results_cell_tmp3_row {P : Program} {fn : Func} {p u v x : Tmp} {ty : TypeId} (h : fn.results = #[.cell p ty, .tmp u, .tmp v, .tmp x]) (tmps : Array Value) (w : World) (g : Nat) (t : TypeId) (cs : Array Value) (d : TypeDesc)
    (hp : tmps.getD p undef = .pointer (some ⟨g, 0, none⟩)) (hg : Blk w g t cs)
    (hu : P.underlying ty = some d) (hd : (match d with | .struct _ | .array _ _ => true | _ => false) = true) (hi : (P.info? ty).map (·.size) = some cs.size) :
    (results fn tmps).run P w = .ok (.tuple #[.agg cs, tmps.getD u undef, tmps.getD v undef, tmps.getD x undef]) w := by
  have hp' : tmps[p]?.getD undef = .pointer (some ⟨g, 0, none⟩) := by simpa using hp
  simp [results, h, hp', asAddr, run_loadVar_row w g t ty cs (0, 0) d hg hu hd hi, Result.andThen]
theorem not3 (f : Nat) (h : f < 18446744073709551616) : f &&& 18446744073709551612 = f / 4 * 4 := by
  have h1 : (f &&& 18446744073709551612) / 4 = f / 4 := by
    rw [show (4 : Nat) = 2 ^ 2 from rfl, Nat.and_div_two_pow, show (18446744073709551612 : Nat) / 2 ^ 2 = 2 ^ 62 - 1 by decide, Nat.and_two_pow_sub_one_eq_mod]
    omega
  have h2 : (f &&& 18446744073709551612) % 4 = 0 := by
    rw [show (4 : Nat) = 2 ^ 2 from rfl, Nat.and_mod_two_pow, show (18446744073709551612 : Nat) % 2 ^ 2 = 0 by decide, Nat.and_zero]
  omega
theorem not3_u (f : Int) (h0 : 0 ≤ f) (h1 : f < 65536) : (bits .andNot .u64 f 3 != 0) = !decide (f < 4) := by
  obtain ⟨k, rfl⟩ := Int.eq_ofNat_of_zero_le h0
  have := u64_andNot_nat k 3 (by omega) (by decide)
  rw [show ((3 : Nat) : Int) = 3 from rfl] at this
  rw [this, show (18446744073709551615 - 3 : Nat) = 18446744073709551612 from rfl, not3 k (by omega)]
  by_cases h : (k : Int) < 4
  · have : k / 4 = 0 := by omega
    simp [this]; omega
  · have : ¬ k / 4 = 0 := by omega
    simp [h]; omega
section
variable {own own' : Nat → Nat} {c cm p mp base n : Nat} {w w' : World} {q : Qu} {m : Nat → Int}
/-- a descriptor: its piece (place, length), flags, next; all right? -/
structure Ds where
  a : Int
  n : Int
  f : Int
  x : Int
def dsA (q : Qu) (i : Nat) : Int := (q.ds : Int) + 16 * (i : Int)
def dsD (base n : Nat) (m : Nat → Int) (q : Qu) (i : Nat) : Ds := ⟨(rdR base n m (dsA q i) 8).1, (rdR base n m (dsA q i + 8) 4).1, (rdR base n m (dsA q i + 12) 2).1, (rdR base n m (dsA q i + 14) 2).1⟩
def dsOk (base n : Nat) (m : Nat → Int) (q : Qu) (i : Nat) : Bool :=
  (rdR base n m (dsA q i) 8).2 && ((rdR base n m (dsA q i + 8) 4).2 && ((rdR base n m (dsA q i + 12) 2).2 && ((rdR base n m (dsA q i + 14) 2).2 &&
    (decide ((dsD base n m q i).f < 4) && (decide ((dsD base n m q i).n = 0) || hasR base n (dsD base n m q i).a (dsD base n m q i).n)))))
theorem allocS (w : World) : (Instr.alloc 44 true (.tuple #[])).run Try.prog w = .ok (.pointer (some ⟨w.heap.size, 0, none⟩)) (w.alloc (.cells #[.int .u64 0, .int .i64 0] 44)) := by kernel_rfl
set_option maxHeartbeats 4000000 in
theorem q_descriptor (h : QAt own c w p q) (hM : MemAt ramK own cm w mp base n m) (hok : QuOk q) (i : Nat) (hi : i < 64) (d : Nat) :
    Calls Try.prog 56 #[.pointer (some ⟨p, 0, none⟩), memV mp, .int .u64 (i : Int)] w fun e w' =>
      e = .returned (.tuple #[.agg #[.int .u64 (if dsOk base n m q i = true then (dsD base n m q i).a else 0), .int .i64 (if dsOk base n m q i = true then (dsD base n m q i).n else 0)], .int .u64 (if dsOk base n m q i = true then (dsD base n m q i).f else 0), .int .u64 (if dsOk base n m q i = true then (dsD base n m q i).x else 0), .int .i64 (if dsOk base n m q i = true then 0 else 32)]) ∧
        Step (fun _ => False) own w (ext own w d) w' := by
  obtain ⟨_, _, _, c3, _⟩ := h.cells
  have hds := hok.ds
  obtain ⟨A, hA⟩ : ∃ a, (q.ds : Int) + 16 * (i : Int) = a := ⟨_, rfl⟩
  have hAb : 0 ≤ A ∧ A < 1152921504606850000 := by omega
  have e0 : dsA q i = A := hA
  obtain ⟨R1, hR1⟩ : ∃ r, rdR base n m A 8 = r := ⟨_, rfl⟩
  obtain ⟨R2, hR2⟩ : ∃ r, rdR base n m (A + 8) 4 = r := ⟨_, rfl⟩
  obtain ⟨R3, hR3⟩ : ∃ r, rdR base n m (A + 12) 2 = r := ⟨_, rfl⟩
  obtain ⟨R4, hR4⟩ : ∃ r, rdR base n m (A + 14) 2 = r := ⟨_, rfl⟩
  have b1 := rd_bd hM.bd base n A 8 (.inr (.inr rfl))
  have b2 := rd_bd hM.bd base n (A + 8) 4 (.inr (.inl rfl))
  have b3 := rd_bd hM.bd base n (A + 12) 2 (.inl rfl)
  rw [hR1, show (256 : Int) ^ (8 : Int).toNat = 18446744073709551616 by decide] at b1
  rw [hR2, show (256 : Int) ^ (4 : Int).toNat = 4294967296 by decide] at b2
  rw [hR3, show (256 : Int) ^ (2 : Int).toNat = 65536 by decide] at b3
  have eD : dsD base n m q i = ⟨R1.1, R2.1, R3.1, R4.1⟩ := by unfold dsD; rw [e0, hR1, hR2, hR3, hR4]
  have eO : dsOk base n m q i = (R1.2 && (R2.2 && (R3.2 && (R4.2 && (decide (R3.1 < 4) && (decide (R2.1 = 0) || hasR base n R1.1 R2.1)))))) := by unfold dsOk; rw [eD, e0, hR1, hR2, hR3, hR4]
  have hst : Step (fun _ => False) own w (ext own w d) (w.alloc (.cells #[.int .u64 0, .int .i64 0] 44)) := ⟨(Upd.refl _ _).alloc _, fun b hb => ext_old _ _ _ hb⟩
  have hM1 := hM.step hst (fun h => h)
  have hb1 := Blk.new w 44 #[.int .u64 0, .int .i64 0]
  have c3' := (h.step hst (fun h => h)).cells.2.2.2.1
  have HST := Lib.hid hst
  have hr0 := ram_Read hM1 A 8 (by omega) (by omega) (by decide) (by decide)
  have hr2 := fun k => ram_Read (show MemAt ramK (ext own w d) cm (World.drewN _ k) mp base n m from hM1.step ((Step.refl (fun _ => False) _ _).drewN k) (fun h => h)) (A + 8) 4 (by omega) (by omega) (by decide) (by decide)
  have hr3 := fun k => ram_Read (show MemAt ramK (ext own w d) cm (World.drewN _ k) mp base n m from hM1.step ((Step.refl (fun _ => False) _ _).drewN k) (fun h => h)) (A + 12) 2 (by omega) (by omega) (by decide) (by decide)
  have hr4 := fun k => ram_Read (show MemAt ramK (ext own w d) cm (World.drewN _ k) mp base n m from hM1.step ((Step.refl (fun _ => False) _ _).drewN k) (fun h => h)) (A + 14) 2 (by omega) (by omega) (by decide) (by decide)
  have hh := fun k => ram_hasC (show MemAt ramK (ext own w d) cm (World.drewN _ k) mp base n m from hM1.step ((Step.refl (fun _ => False) _ _).drewN k) (fun h => h)) R1.1 R2.1 (by omega) (by omega) (by omega) (by omega)
  rw [hR1] at hr0
  simp only [hR2] at hr2
  simp only [hR3] at hr3
  simp only [hR4] at hr4
  have H0 := Lib.hid hr0
  have H2 := Lib.hid hr2
  have H3 := Lib.hid hr3
  have H4 := Lib.hid hr4
  have HB := Lib.hid hb1
  rw [eD, eO]
  clear hr0 hr2 hr3 hr4 hb1 hM1 hst h hM hok e0 hR1 hR2 hR3 hR4 eD eO
  have hz3 := not3_u R3.1 b3.1 b3.2
  obtain ⟨F4, hF4⟩ : ∃ b, decide (R3.1 < 4) = b := ⟨_, rfl⟩
  obtain ⟨Hs, hHs⟩ : ∃ b, hasR base n R1.1 R2.1 = b := ⟨_, rfl⟩
  rw [hF4] at hz3
  simp only [hHs] at hh
  rw [hF4, hHs]
  have HH := Lib.hid hh
  clear hh hF4 hHs
  obtain ⟨B, hB⟩ : ∃ B, (R1.2 && (R2.2 && (R3.2 && (R4.2 && (F4 && (decide (R2.1 = 0) || Hs)))))) = B := ⟨_, rfl⟩
  rw [hB]
  have HBB := Lib.hid hB
  clear hB
  have hmn := m_Read mp
  unfold memV
  go_enter Try.func56, Try.ntmps56
  go_wp2_with fail
  ((with_reducible refine H0.out.mono ?_); rintro e wA ⟨rfl, n1, rfl⟩)
  clear H0
  go_wp2_with fail
  ((with_reducible refine (H2.out _).mono ?_); rintro e wA ⟨rfl, n2, rfl⟩)
  clear H2
  go_wp2_with fail
  ((with_reducible refine (H3.out _).mono ?_); rintro e wA ⟨rfl, n3, rfl⟩)
  clear H3
  go_wp2_with fail
  ((with_reducible refine (H4.out _).mono ?_); rintro e wA ⟨rfl, n4, rfl⟩)
  clear H4
  go_upto_region 6 with fail
  have hmh := m_Has mp
  obtain ⟨R11, R12⟩ := R1
  obtain ⟨R21, R22⟩ := R2
  obtain ⟨R31, R32⟩ := R3
  obtain ⟨R41, R42⟩ := R4
  obtain ⟨NB, hNB⟩ : ∃ b, (!B) = b := ⟨_, rfl⟩
  have HNB := Lib.hid hNB
  clear hNB
  go_cut [81] (fun s81 wx => s81 = .bool NB ∧ ∃ k, wx = (w.alloc (.cells #[.int .u64 0, .int .i64 0] 44)).drewN k)
  case first =>
    cases R12
    · go_wp2
      go_meet
      exact ⟨by rw [← HNB.out, ← HBB.out]; rfl, _, rfl⟩
    cases R22
    · go_wp2
      go_meet
      exact ⟨by rw [← HNB.out, ← HBB.out]; rfl, _, rfl⟩
    cases R32
    · go_wp2
      go_meet
      exact ⟨by rw [← HNB.out, ← HBB.out]; rfl, _, rfl⟩
    cases R42
    · go_wp2
      go_meet
      exact ⟨by rw [← HNB.out, ← HBB.out]; rfl, _, rfl⟩
    cases F4
    · go_wp2
      go_meet
      exact ⟨by rw [← HNB.out, ← HBB.out]; rfl, _, rfl⟩
    by_cases hn0 : R21 = 0
    · subst hn0
      go_wp2
      go_meet
      exact ⟨by rw [← HNB.out, ← HBB.out]; rfl, _, rfl⟩
    · have hn1 : decide (0 < R21) = true := decide_eq_true (by have := b2.1; omega)
      have HBn := Lib.hid (decide_eq_false hn0)
      go_wp2_with fail
      ((with_reducible refine (HH.out _).mono ?_); rintro e wA ⟨rfl, n5, rfl⟩)
      cases Hs
      · go_wp2
        go_meet
        exact ⟨by rw [← HNB.out, ← HBB.out, HBn.out]; rfl, _, rfl⟩
      · go_wp2
        go_meet
        exact ⟨by rw [← HNB.out, ← HBB.out, HBn.out]; rfl, _, rfl⟩
  case rest =>
    obtain ⟨rfl, k, rfl⟩ := hcut
    have hc0 := HB.out.cell 0
    have hc1 := HB.out.cell 1
    have hf0 := HB.out.frozen 0
    have hf1 := HB.out.frozen 1
    simp only [List.getElem?_toArray, List.getElem?_cons_zero, List.getElem?_cons_succ] at hc0 hc1
    clear HH HBB c3 c3' b3 hmn hmh
    have hstd : Step (fun _ => False) own w (ext own w d) ((w.alloc (.cells #[.int .u64 0, .int .i64 0] 44)).drewN k) := HST.out.drewN k
    have hge : w.heap.size ≤ w.heap.size := Nat.le_refl _
    have HW := Lib.hid (fun (x y : Value) => (show Step (fun _ => False) own w (ext own w d) ((((w.alloc (.cells #[.int .u64 0, .int .i64 0] 44)).drewN k).setCell ⟨w.heap.size, 0, none⟩ x).setCell ⟨w.heap.size, 1, none⟩ y) from
      ⟨(hstd.upd.setCell (p := ⟨w.heap.size, 0, none⟩) (.inr hge) x).setCell (p := ⟨w.heap.size, 1, none⟩) (.inr hge) y, hstd.old⟩))
    have HBk := Lib.hid (fun (x y : Value) => ((show Blk ((w.alloc (.cells #[.int .u64 0, .int .i64 0] 44)).drewN k) w.heap.size 44 #[.int .u64 0, .int .i64 0] from HB.out).set_ 0 x).set_ 1 y)
    clear hstd HST HB
    cases B with
    | false =>
      obtain rfl : NB = true := HNB.out.symm
      go_wp2
      refine bodyPost_ret (results_cell_tmp3_row rfl _ _ w.heap.size 44 #[.int .u64 0, .int .i64 0] _ rfl (HBk.out (.int .u64 0) (.int .i64 0)) Try.underlying44 rfl (by kernel_rfl)) rfl ?_
      exact ⟨rfl, HW.out _ _⟩
    | true =>
      obtain rfl : NB = false := HNB.out.symm
      have hi1 : wrap64 R21 = R21 := IntWalk.wrap64_in _ (by have := b2; simp only [] at this; omega)
      go_wp2
      refine bodyPost_ret (results_cell_tmp3_row rfl _ _ w.heap.size 44 #[.int .u64 R11, .int .i64 R21] _ rfl (HBk.out (.int .u64 R11) (.int .i64 R21)) Try.underlying44 rfl (by kernel_rfl)) rfl ?_
      exact ⟨rfl, HW.out _ _⟩
end
end Go.Proofs.Ytjhibbhinbdciaa
