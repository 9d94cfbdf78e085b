import Derived.Test.YtlgcplekcmocbaaIoG
import Derived.Test.YtlgcplekcmocbaaIo8
import Derived.Test.YtlgcplekcmocbaaLaw3
/- IommuReaches: the walk. -/
namespace Go.Proofs.Ytlgcplekcmocbaa
set_option linter.unusedVariables false
set_option linter.unusedSimpArgs false
open Go.RowKit
set_option maxRecDepth 100000

def lets0 (v1 v16 v64 v4 v2 : Bool) : Bool := !v1 && !v16 && !v64 && (v4 || !v2)
def letsW (wr : Bool) (c v4 v128 v2 : Bool) : Bool := if wr then c && !v4 && !v128 else c && !v2
theorem letsB_eq (b : Nat) (wr : Bool) : letsB b wr = letsW wr (lets0 (b &&& 1 == 0) (b &&& 16 == 0) (b &&& 64 == 0) (b &&& 4 == 0) (b &&& 2 == 0)) (b &&& 4 == 0) (b &&& 128 == 0) (b &&& 2 == 0) := by
  unfold letsB letsW lets0
  simp only [bne]
  cases wr
  · simp
  · simp [Bool.and_assoc]
theorem band0 (b k : Nat) (hb : b < 256) (hk : k < 256) {v : Bool} (hv : (b &&& k == 0) = v) : (bits .and .u64 (b : Int) (k : Int) == 0) = v ∧ (bits .and .u64 (b : Int) (k : Int) != 0) = !v := by
  rw [u64_and_nat _ _ (by omega) (by omega)]
  have : (((b &&& k : Nat) : Int) == 0) = (b &&& k == 0) := by
    rw [Bool.eq_iff_iff, beq_iff_eq, beq_iff_eq]; omega
  exact ⟨by rw [this, hv], by unfold bne; rw [this, hv]⟩
set_option maxHeartbeats 4000000 in
theorem reaches_calls (slot : Int) (number : Nat) (bs : Int) (addr : Nat) (wr : Bool) (h0 : i64B slot) (h1 : number < 18446744073709551616) (h2 : i64B bs) (h3 : addr < 18446744073709551616) (w : World) :
    Calls Try.prog 8 #[.int .i64 slot, .int .u64 (number : Int), .int .i64 bs, .int .u64 (addr : Int), .bool wr] w fun e w' => e = .returned (.bool true) ∧ Upd (fun _ => False) w w' := by
  obtain ⟨i, hi⟩ : ∃ i : Nat, slot % 512 = (i : Int) := ⟨(slot % 512).toNat, by omega⟩
  have hi5 : i < 512 := by omega
  obtain ⟨n, hn⟩ : ∃ n : Nat, (number : Int) % 12 = (n : Int) := ⟨number % 12, by omega⟩
  have hn12 : n < 12 := by omega
  obtain ⟨b, hb⟩ : ∃ b : Nat, bs % 256 = (b : Int) := ⟨(bs % 256).toNat, by omega⟩
  have hb256 : b < 256 := by omega
  obtain ⟨o, ho⟩ : ∃ o : Nat, (addr : Int) % 512 = (o : Int) := ⟨addr % 512, by omega⟩
  have ho5 : o < 512 := by omega
  have P1 := fun w => place_calls slot 512 w h0.1 h0.2 (by decide) (by decide)
  rw [hi] at P1
  have P2 := fun w => place_calls bs 256 w h2.1 h2.2 (by decide) (by decide)
  rw [hb] at P2
  have HP1 := Lib.hid P1
  have HP2 := Lib.hid P2
  have hor : bits .or .u64 ((n : Int) * 1024) (b : Int) = ((n * 1024 + b : Nat) : Int) := by
    rw [show (n : Int) * 1024 = ((n * 1024 : Nat) : Int) from by omega, u64_or_nat _ _ (by omega) (by omega), nat_join 10 _ _ (by omega) (by omega)]
  obtain ⟨E, hE⟩ : ∃ E, n * 1024 + b = E := ⟨_, rfl⟩
  rw [hE] at hor
  obtain ⟨M0, hM0⟩ : ∃ M0, cellsM 8 (fun _ => 0) [(512, 2049), (1024, 3073), (1536 + (i : Int), E)] = M0 := ⟨_, rfl⟩
  obtain ⟨htab, hent⟩ := tab_of i E hi5 (by omega)
  have hW0 := (Upd.refl (fun _ => False) w).alloc (.cells #[.int .i64 512, .int .u64 2049, .int .i64 1024, .int .u64 3073, .int .i64 (1536 + (i : Int)), .int .u64 (E : Int)] 57)
  have hB0 := Blk.new w 57 #[.int .i64 512, .int .u64 2049, .int .i64 1024, .int .u64 3073, .int .i64 (1536 + (i : Int)), .int .u64 (E : Int)]
  have hN := law07_NewC 0 (fun _ => 0) 4 (by decide) (w.alloc (.cells #[.int .i64 512, .int .u64 2049, .int .i64 1024, .int .u64 3073, .int .i64 (1536 + (i : Int)), .int .u64 (E : Int)] 57)) (.slice (some ⟨w.heap.size, 0, none⟩) 3 3) [(512, 2049), (1024, 3073), (1536 + (i : Int), E)]
    ⟨_, _, rfl, fun _ => ⟨w.heap.size, 0, rfl, hB0.lt, fun k x hx => by
      rcases (show k = 0 ∨ k = 1 ∨ k = 2 by have := (List.getElem?_eq_some_iff.1 hx).1; simp at this; omega) with rfl | rfl | rfl
      · cases hx; exact ⟨hB0.cell 0, hB0.cell 1⟩
      · cases hx; exact ⟨hB0.cell 2, hB0.cell 3⟩
      · cases hx; exact ⟨hB0.cell 4, hB0.cell 5⟩⟩⟩ (by simp) (by
    intro x hx
    simp only [List.mem_cons, List.not_mem_nil, or_false] at hx
    rcases hx with rfl | rfl | rfl
    · decide
    · decide
    · exact ⟨by show -9223372036854775808 ≤ 1536 + (i : Int); omega, by show 1536 + (i : Int) ≤ 9223372036854775807; omega, by show E < _; omega⟩)
  rw [hM0] at hN htab hent
  rw [show ((4 : Nat) : Int) = 4 from rfl] at hN
  have HN := Lib.hid hN
  have HT := Lib.hid (And.intro htab (And.intro hent (And.intro hE hW0)))
  clear P1 P2 hi hb h0 h2 hN htab hent hW0 hB0 hM0
  go_enter Try.func8, Try.ntmps8
  go_wp2_with fail
  ((with_reducible refine (HP1.out _).mono ?_); rintro e wz ⟨rfl, rfl⟩)
  clear HP1
  go_wp2_with fail
  ((with_reducible refine (HP2.out _).mono ?_); rintro e wz ⟨rfl, rfl⟩)
  clear HP2
  go_wp2_with fail
  ((with_reducible refine HN.out.mono ?_); rintro e w1 ⟨p, q, rp, tp, p2, t2, own1, rfl, hS1, hO1⟩)
  clear HN
  generalize (w.alloc (.cells #[.int .i64 512, .int .u64 2049, .int .i64 1024, .int .u64 3073, .int .i64 (1536 + (i : Int)), .int .u64 (E : Int)] 57)) = w0 at *
  have hS2 : Step (fun _ => False) own1 w1 (ext own1 w1 50) (w1.alloc (.cells #[.pointer (some ⟨p, 0, none⟩), .pointer (some ⟨q, 0, none⟩), .pointer (some ⟨rp, 0, none⟩), .pointer (some ⟨p2, 0, none⟩)] 31)) := ⟨(Upd.refl _ _).alloc _, fun b hb => ext_old _ _ _ hb⟩
  have hB1 : S1 w0 (ext own1 w1 50) (w1.alloc (.cells #[.pointer (some ⟨p, 0, none⟩), .pointer (some ⟨q, 0, none⟩), .pointer (some ⟨rp, 0, none⟩), .pointer (some ⟨p2, 0, none⟩)] 31)) p q rp tp p2 w1.heap.size 4 us0 M0 [] :=
    ⟨(hS1.trans hS2).mono (fun _ h => h.elim), Sd.of_on (hO1.step hS2 (fun x h => h.elim)), Blk.new w1 _ _, ext_new _ _ _ (Nat.le_refl _)⟩
  have hA := hB1.a.set 1 1 (by decide) rfl (by decide)
  rw [show ((1 : Nat) : Int) = 1 from rfl, show setR 1 = 0 from rfl] at hA
  have HA := Lib.hid hA
  have H1 := Lib.hid hB1
  clear hS1 hO1 hS2 hB1 hA
  go_wp2_with fail
  generalize w1.heap.size = xo at *
  ((with_reducible refine HA.out.mono ?_); rintro e w2 ⟨rfl, own2, hS2, hA2⟩)
  have hB2 := H1.out.step hS2 hA2
  have hA := hB2.a.ring 0 (by decide) (by decide)
  rw [show ((0 : Nat) : Int) = 0 from rfl] at hA
  have HA2 := Lib.hid hA
  obtain ⟨x0, xl⟩ := hB2.cell
  have H2 := Lib.hid hB2
  clear hS2 hA2 hB2 hA HA H1
  go_wp2_with fail
  ((with_reducible refine HA2.out.mono ?_); rintro e w3 ⟨rfl, own3, hS3, hA3⟩)
  have hB3 := H2.out.step hS3 hA3
  obtain ⟨x0, xl⟩ := hB3.cell
  have H3 := Lib.hid hB3
  clear hS3 hA3 hB3 HA2 H2
  obtain ⟨v1, hv1⟩ : ∃ v, (b &&& 1 == 0) = v := ⟨_, rfl⟩
  obtain ⟨v16, hv16⟩ : ∃ v, (b &&& 16 == 0) = v := ⟨_, rfl⟩
  obtain ⟨v64, hv64⟩ : ∃ v, (b &&& 64 == 0) = v := ⟨_, rfl⟩
  obtain ⟨v4, hv4⟩ : ∃ v, (b &&& 4 == 0) = v := ⟨_, rfl⟩
  obtain ⟨v2, hv2⟩ : ∃ v, (b &&& 2 == 0) = v := ⟨_, rfl⟩
  obtain ⟨v128, hv128⟩ : ∃ v, (b &&& 128 == 0) = v := ⟨_, rfl⟩
  have HLB := Lib.hid (letsB_eq b wr)
  rw [hv1, hv16, hv64, hv4, hv2, hv128] at HLB
  obtain ⟨e1, f1⟩ := band0 b 1 hb256 (by decide) hv1
  obtain ⟨e16, f16⟩ := band0 b 16 hb256 (by decide) hv16
  obtain ⟨e64, f64⟩ := band0 b 64 hb256 (by decide) hv64
  obtain ⟨e4, f4⟩ := band0 b 4 hb256 (by decide) hv4
  obtain ⟨e2, f2⟩ := band0 b 2 hb256 (by decide) hv2
  obtain ⟨e128, f128⟩ := band0 b 128 hb256 (by decide) hv128
  simp only [show ((1 : Nat) : Int) = 1 from rfl, show ((16 : Nat) : Int) = 16 from rfl, show ((64 : Nat) : Int) = 64 from rfl, show ((4 : Nat) : Int) = 4 from rfl, show ((2 : Nat) : Int) = 2 from rfl, show ((128 : Nat) : Int) = 128 from rfl] at e1 f1 e16 f16 e64 f64 e4 f4 e2 f2 e128 f128
  clear hv1 hv16 hv64 hv4 hv2 hv128
  go_upto_region 8 with fail
  go_cut [17] (fun s17 wx => s17 = .bool (lets0 v1 v16 v64 v4 v2) ∧ w3 = wx)
  case first =>
    rcases v1 with _ | _
    · rcases v16 with _ | _
      · rcases v64 with _ | _
        · rcases v4 with _ | _
          · rcases v2 with _ | _
            · simp only [Bool.not_false, Bool.not_true] at f1 f16 f64 f4 f2
              go_wp2
              go_meet
              exact ⟨rfl, rfl⟩
            · simp only [Bool.not_false, Bool.not_true] at f1 f16 f64 f4 f2
              go_wp2
              go_meet
              exact ⟨rfl, rfl⟩
          · simp only [Bool.not_false, Bool.not_true] at f1 f16 f64 f4
            clear e2 f2
            go_wp2
            go_meet
            exact ⟨rfl, rfl⟩
        · simp only [Bool.not_false, Bool.not_true] at f1 f16 f64
          clear e2 f2 e4 f4
          go_wp2
          go_meet
          exact ⟨rfl, rfl⟩
      · simp only [Bool.not_false, Bool.not_true] at f1 f16
        clear e2 f2 e4 f4 e64 f64
        go_wp2
        go_meet
        exact ⟨rfl, rfl⟩
    · simp only [Bool.not_true] at f1
      clear e2 f2 e4 f4 e64 f64 e16 f16
      go_wp2
      go_meet
      exact ⟨rfl, rfl⟩
  case rest =>
  obtain ⟨rfl, rfl⟩ := hcut
  clear e1 f1 e16 f16 e64 f64
  generalize lets0 v1 v16 v64 v4 v2 = c0 at *
  go_upto_if 95 with fail
  go_cut [17] (fun s17 wx => s17 = .bool (letsB b wr) ∧ w3 = wx)
  case first =>
    rcases wr with _ | _
    · rcases c0 with _ | _
      · clear e2 f2 e4 f4 e128 f128
        go_wp2
        go_meet
        exact ⟨by rw [HLB.out]; rfl, rfl⟩
      · rcases v2 with _ | _
        · simp only [Bool.not_false, Bool.not_true] at f2
          clear e4 f4 e128 f128
          go_wp2
          go_meet
          exact ⟨by rw [HLB.out]; rfl, rfl⟩
        · simp only [Bool.not_false, Bool.not_true] at f2
          clear e4 f4 e128 f128
          go_wp2
          go_meet
          exact ⟨by rw [HLB.out]; rfl, rfl⟩
    · rcases c0 with _ | _
      · clear e2 f2 e4 f4 e128 f128
        go_wp2
        go_meet
        exact ⟨by rw [HLB.out]; rfl, rfl⟩
      · rcases v4 with _ | _
        · simp only [Bool.not_false, Bool.not_true] at f4
          rcases v128 with _ | _
          · simp only [Bool.not_false, Bool.not_true] at f128
            clear e2 f2
            go_wp2
            go_meet
            exact ⟨by rw [HLB.out]; rfl, rfl⟩
          · simp only [Bool.not_false, Bool.not_true] at f128
            clear e2 f2
            go_wp2
            go_meet
            exact ⟨by rw [HLB.out]; rfl, rfl⟩
        · simp only [Bool.not_false, Bool.not_true] at f4
          clear e2 f2 e128 f128
          go_wp2
          go_meet
          exact ⟨by rw [HLB.out]; rfl, rfl⟩
  case rest =>
  obtain ⟨rfl, rfl⟩ := hcut
  clear e2 f2 e4 f4 e128 f128 HLB
  obtain ⟨SS, hSS⟩ : ∃ SS, usRg (usRt us0 1 1) 0 = SS := ⟨_, rfl⟩
  have hq0 := QS.new (n := 8) (s := usRt us0 1 1) M0 ((UsOk.init 8).kRt 1 1 (by decide)) 0 (by decide) (by decide) (by decide) false rfl
  have hB3 := H3.out
  have hrt : SS.rt 1 = 1 := by rw [← hSS]; rfl
  rw [hSS] at hB3 hq0
  have hA := hB3.a.acc (by decide) 1 (i * 4096 + o * 8) (by omega) 8 (by decide) (by decide) wr
  have hs1 := accA_sound (n := 8) hB3.a.mm.bd (s := SS) (l := []) (SoundL.nil _ _ _) 4 1 (i * 4096 + o * 8) 8 wr
  have hat := acc_tab HT.out.1 (s := SS) (d := 1) (i := i) (n := n) (b := b) (o := o) (by decide) hrt hi5 ho5 hn12 hb256 (by rw [HT.out.2.1, HT.out.2.2.1]) wr
  rw [show ((1 : Nat) : Int) = 1 from rfl] at hat
  rw [hat] at hs1
  generalize accA 8 M0 SS 4 [] 1 (i * 4096 + o * 8) 8 wr = RA at *
  obtain ⟨PA, KD, LA⟩ := RA
  simp only [] at hs1 hA
  rw [show ((i * 4096 + o * 8 : Nat) : Int) = (i : Int) * 4096 + (o : Int) * 8 from by omega] at hA
  obtain ⟨LT, hLT⟩ : ∃ LT, letsB b wr = LT := ⟨_, rfl⟩
  rw [hLT] at hs1 ⊢
  have HS := Lib.hid (And.intro hs1.1 (And.intro hq0 hB3))
  have HA := Lib.hid hA
  have HW := Lib.hid HT.out.2.2.2
  clear hq0 hB3 hrt hSS hA hs1 hat hLT HT H3
  by_cases hgood : LT = true ∧ n < 8
  · obtain ⟨rfl, h8⟩ := hgood
    obtain ⟨rfl, rfl⟩ : PA = n * 4096 + o * 8 ∧ KD = 0 := by
      have h := HS.out.1
      rw [if_pos rfl, if_pos h8] at h
      cases h; exact ⟨rfl, rfl⟩
    rw [show ((n * 4096 + o * 8 : Nat) : Int) = (n : Int) * 4096 + (o : Int) * 8 from by omega, show accSt SS 1 0 = SS from rfl, show accMt SS M0 1 0 (i * 4096 + o * 8) = M0 from rfl] at HA
    have h8d : decide ((n : Int) < 8) = true := by simp; omega
    go_wp2_with fail
    ((with_reducible refine HA.out.mono ?_); rintro e w5 ⟨rfl, own5, hS5, hA5⟩)
    have hB5 := HS.out.2.2.step hS5 hA5
    have hX := hB5.a.none_ HS.out.2.1.none_
    obtain ⟨x0, xl⟩ := hB5.cell
    have H5 := Lib.hid hB5
    have HX := Lib.hid hX
    clear hS5 hA5 hB5 hX HA HS
    go_wp2_with fail
    ((with_reducible refine HX.out.mono ?_); rintro e w6 ⟨rfl, own6, hS6, hA6⟩)
    have HU := Lib.hid (fun ob => HW.out.trans' ((H5.out.step hS6 hA6).alloc ob).upd (fun _ _ e => e))
    clear hS6 hA6 HX H5 HW
    go_wp2_with fail
    ((with_reducible refine (awake07 _).mono ?_); rintro e w13 ⟨rfl, hU13⟩)
    have HE := Lib.hid ((HU.out _).trans' hU13 (fun _ _ e => e))
    clear hU13 HU
    go_wp2
    go_ret
    exact ⟨rfl, HE.out⟩
  · obtain ⟨rfl, hkd⟩ : PA = 0 ∧ KD = (if LT = true then 3 else 2) := by
      have h := HS.out.1
      rcases LT with _ | _
      · rw [if_neg (by decide)] at h; cases h; exact ⟨rfl, rfl⟩
      · rw [if_pos rfl, if_neg (fun h8 => hgood ⟨rfl, h8⟩)] at h; cases h; exact ⟨rfl, rfl⟩
    have hk2 : KD = 2 ∨ KD = 3 := by rw [hkd]; split <;> simp
    have e1 : accSt SS 1 KD = recS SS := by unfold accSt; rw [if_neg (by omega)]
    have e2 : accMt SS M0 1 KD (i * 4096 + o * 8) = recM SS M0 ((1 : Nat) : Int) (KD : Int) ((i * 4096 + o * 8 : Nat) : Int) := by unfold accMt; rw [if_neg (by omega)]; rfl
    have hq1 := HS.out.2.1.push 1 KD (i * 4096 + o * 8) (by decide) (by omega) (by omega)
    rw [show pushL [] (1, KD, i * 4096 + o * 8) = [(1, KD, i * 4096 + o * 8)] from rfl] at hq1
    rw [e1, e2] at HA
    have hkz : (KD == 0) = false := by simp; omega
    rw [hkz] at HA
    have HQ := Lib.hid hq1
    have h8d : LT = true → ¬ n < 8 := fun h h8 => hgood ⟨h, h8⟩
    rw [show ((0 : Nat) : Int) = 0 from rfl] at HA
    clear e1 e2 hq1
    go_wp2_with fail
    ((with_reducible refine HA.out.mono ?_); rintro e w5 ⟨rfl, own5, hS5, hA5⟩)
    have hB5 := HS.out.2.2.step hS5 hA5
    have hX := hB5.a.next HQ.out
    rw [show ((1 : Nat) : Int) = 1 from rfl, show ((i * 4096 + o * 8 : Nat) : Int) = (i : Int) * 4096 + (o : Int) * 8 from by omega] at hX
    obtain ⟨x0, xl⟩ := hB5.cell
    have H5 := Lib.hid hB5
    have HX := Lib.hid hX
    clear hS5 hA5 hB5 hX HA HS HQ
    rcases LT with _ | _
    · rw [if_neg (by decide)] at hkd
      subst hkd
      rw [show ((2 : Nat) : Int) = 2 from rfl] at HX
      clear h8d hkz hk2
      go_wp2_with fail
      ((with_reducible refine HX.out.mono ?_); rintro e w6 ⟨rfl, own6, s6, hS6, hA6, _⟩)
      have HU := Lib.hid (fun ob => HW.out.trans' ((H5.out.step hS6 hA6).alloc ob).upd (fun _ _ e => e))
      clear hS6 hA6 HX H5 HW
      go_wp2_with fail
      ((with_reducible refine (awake07 _).mono ?_); rintro e w13 ⟨rfl, hU13⟩)
      have HE := Lib.hid ((HU.out _).trans' hU13 (fun _ _ e => e))
      clear hU13 HU
      go_wp2
      go_ret
      exact ⟨rfl, HE.out⟩
    · rw [if_pos rfl] at hkd
      subst hkd
      rw [show ((3 : Nat) : Int) = 3 from rfl] at HX
      have h8d2 : decide ((n : Int) < 8) = false := by have := h8d rfl; simp; omega
      clear h8d hkz hk2
      go_wp2_with fail
      ((with_reducible refine HX.out.mono ?_); rintro e w6 ⟨rfl, own6, s6, hS6, hA6, _⟩)
      have HU := Lib.hid (fun ob => HW.out.trans' ((H5.out.step hS6 hA6).alloc ob).upd (fun _ _ e => e))
      clear hS6 hA6 HX H5 HW
      go_wp2_with fail
      ((with_reducible refine (awake07 _).mono ?_); rintro e w13 ⟨rfl, hU13⟩)
      have HE := Lib.hid ((HU.out _).trans' hU13 (fun _ _ e => e))
      clear hU13 HU
      go_wp2
      go_ret
      exact ⟨rfl, HE.out⟩
end Go.Proofs.Ytlgcplekcmocbaa
