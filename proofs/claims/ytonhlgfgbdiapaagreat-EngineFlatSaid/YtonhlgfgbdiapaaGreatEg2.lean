import Derived.Test.YtonhlgfgbdiapaaGreatEg1
/- The engine: command, set, Write. -/
namespace Go.Proofs.YtonhlgfgbdiapaaGreat
set_option linter.unusedVariables false
set_option linter.unusedSimpArgs false
open Go.RowKit Go.Maps
set_option maxRecDepth 100000

theorem and1_u (v : Nat) (hv : v < 18446744073709551616) : bits .and .u64 (v : Int) 1 = ((v % 2 : Nat) : Int) := by
  rw [show (1 : Int) = ((1 : Nat) : Int) from rfl, u64_and_nat _ _ hv (by decide), Nat.and_one_is_mod]
theorem and2_u (v : Nat) (hv : v < 18446744073709551616) : bits .and .u64 (v : Int) 2 = ((v / 2 % 2 * 2 : Nat) : Int) := by
  rw [show (2 : Int) = ((2 : Nat) : Int) from rfl, u64_and_nat _ _ hv (by decide)]
  have h1 : v &&& 2 ≤ 2 := Nat.and_le_right
  have h2 : (v &&& 2) % 4 = (v % 4 &&& 2 % 4) := by rw [show 4 = 2 ^ 2 from rfl, Nat.and_mod_two_pow]
  have key : ∀ x : Nat, x < 4 → (x &&& 2 % 4) = x / 2 % 2 * 2 := by decide
  have h3 := key (v % 4) (Nat.mod_lt _ (by decide))
  omega
theorem andNot7 (off : Nat) (h : off < 56) : bits .andNot .u64 (off : Int) 7 = ((off / 8 * 8 : Nat) : Int) := by
  have key : ∀ off : Nat, off < 56 → bits .andNot .u64 (off : Int) 7 = ((off / 8 * 8 : Nat) : Int) := by decide +kernel
  exact key off h
theorem and4_u (off : Nat) (h : off < 56) : bits .and .u64 (off : Int) 4 = ((off / 4 % 2 * 4 : Nat) : Int) := by
  have key : ∀ off : Nat, off < 56 → bits .and .u64 (off : Int) 4 = ((off / 4 % 2 * 4 : Nat) : Int) := by decide +kernel
  exact key off h
theorem or3_u (a b n : Nat) (ha : a < 18446744073709551616) (hb : b < 18446744073709551616) (hn : n < 18446744073709551616) :
    ((bits .or .u64 (bits .or .u64 (a : Int) (b : Int)) (n : Int)).tmod 8 == 0) = (decide (a % 8 = 0) && decide (b % 8 = 0) && decide (n % 8 = 0)) := by
  have h1 : a ||| b < 18446744073709551616 := Nat.or_lt_two_pow (n := 64) ha hb
  rw [u64_or_nat _ _ ha hb, u64_or_nat _ _ h1 hn, Int.tmod_eq_emod_of_nonneg (by omega)]
  have h2 : ((a ||| b) ||| n) % 8 = ((a % 8 ||| b % 8) ||| n % 8) := by
    rw [show 8 = 2 ^ 3 from rfl, Nat.or_mod_two_pow, Nat.or_mod_two_pow]
  have h3 : ((((a ||| b) ||| n : Nat) : Int) % 8 == 0) = (((a ||| b) ||| n) % 8 == 0) := by
    rw [Bool.eq_iff_iff]; simp; omega
  rw [h3, h2]
  have key : ∀ x : Nat, x < 8 → ∀ y : Nat, y < 8 → ∀ z : Nat, z < 8 → ((x ||| y) ||| z == 0) = (decide (x = 0) && decide (y = 0) && decide (z = 0)) := by decide +kernel
  exact key _ (Nat.mod_lt _ (by decide)) _ (Nat.mod_lt _ (by decide)) _ (Nat.mod_lt _ (by decide))
theorem orLo (old v : Nat) (ho : old < 18446744073709551616) : bits .or .u64 ((old : Int) / 4294967296 * 4294967296) ((v : Int) % 4294967296) = ((old / 4294967296 * 4294967296 + v % 4294967296 : Nat) : Int) := by
  have e1 : (old : Int) / 4294967296 * 4294967296 = ((old / 4294967296 * 4294967296 : Nat) : Int) := by omega
  have e2 : (v : Int) % 4294967296 = ((v % 4294967296 : Nat) : Int) := by omega
  rw [e1, e2, u64_or_nat _ _ (by omega) (by omega), nat_join 32 _ _ (by omega) (by omega)]
theorem orHi (old v : Nat) : bits .or .u64 ((old : Int) % 4294967296) (IntKind.u64.wrap ((v : Int) * 4294967296)) = ((old % 4294967296 + v % 4294967296 * 4294967296 : Nat) : Int) := by
  have e0 : IntKind.u64.wrap ((v : Int) * 4294967296) = (v : Int) * 4294967296 % 18446744073709551616 := by simp [IntKind.wrap, IntKind.bits, IntKind.signed]
  rw [e0]
  have e1 : (v : Int) * 4294967296 % 18446744073709551616 = ((v % 4294967296 * 4294967296 : Nat) : Int) := by omega
  have e2 : (old : Int) % 4294967296 = ((old % 4294967296 : Nat) : Int) := by omega
  rw [e1, e2, u64_or_nat _ _ (by omega) (by omega), Nat.or_comm, nat_join 32 _ _ (by omega) (by omega), Nat.add_comm]
section
variable {own own' : Nat → Nat} {c e mp rb b : Nat} {way rd : Value} {w w' : World} {s s' : Eg}
set_option maxHeartbeats 1500000 in
theorem eng_command (h : EngAt own c w e mp way s) (hok : EgOk s) (v : Nat) (hv : v < 18446744073709551616) :
    Calls Tryz.prog 32 #[.pointer (some ⟨e, 0, none⟩), .int .u64 (v : Int)] w fun x w' => x = .returned (.tuple #[]) ∧ Step (· = c) own w own w' ∧ EngAt own c w' e mp way (cmdE s v) := by
  obtain ⟨_, _, c3, c4, z3, z4, hlt⟩ := h.cells
  by_cases hs : s.st = 1
  · have hs1 : ((s.st : Int) == 1) = true := by rw [hs]; rfl
    by_cases h2 : v / 2 % 2 = 1
    · have hv2 : (bits .and .u64 (v : Int) 2 != 0) = true := by rw [and2_u v hv, h2]; rfl
      have hc : cmdE s v = { s with st := 0 } := by unfold cmdE; rw [if_pos hs, if_pos h2]
      rw [hc]
      have HF := Lib.hid (h.put (s' := { s with st := 0 }) 3 (.int .u64 0) (fun _ _ _ => rfl) rfl)
      clear h hok hs h2 hc
      go_enter Tryz.func32, Tryz.ntmps32
      go_wp2
      go_end0
      exact ⟨rfl, HF.out⟩
    · have hv2 : (bits .and .u64 (v : Int) 2 != 0) = false := by rw [and2_u v hv, show v / 2 % 2 = 0 by omega]; rfl
      have hc : cmdE s v = s := by unfold cmdE; rw [if_pos hs, if_neg h2]
      rw [hc]
      have HF := Lib.hid (And.intro (Step.refl (· = c) own w) h)
      clear h hok hs h2 hc
      go_enter Tryz.func32, Tryz.ntmps32
      go_wp2
      go_end0
      exact ⟨rfl, HF.out⟩
  · have hs1 : ((s.st : Int) == 1) = false := by simp; omega
    by_cases h1 : v % 2 = 1
    · have hv1 : (bits .and .u64 (v : Int) 1 != 0) = true := by rw [and1_u v hv, h1]; rfl
      have hp1 := h.put (s' := { s with st := 1 }) 3 (.int .u64 1) (fun _ _ _ => rfl) rfl
      have hp2 := hp1.2.put (s' := { s with st := 1, cp := 0 }) 4 (.int .u64 0) (fun _ _ _ => rfl) rfl
      have HL := Lib.hid (eng_len hp2.2)
      have HS := Lib.hid (eng_src hp2.2)
      have HD := Lib.hid (eng_dst hp2.2)
      have hor := or3_u (s.rg 0) (s.rg 8) (s.rg 16) (hok.rg 0) (hok.rg 8) (hok.rg 16)
      have hp3 := hp2.2.put (s' := { s with st := 3, cp := 0 }) 3 (.int .u64 3) (fun _ _ _ => rfl) rfl
      cases hb : badE s with
      | true =>
        have hc : cmdE s v = { s with st := 3, cp := 0 } := by unfold cmdE; rw [if_neg hs, if_pos h1, hb]; rfl
        rw [hc]
        have HF := Lib.hid (And.intro ((hp1.1.trans hp2.1).trans hp3.1) hp3.2)
        by_cases hn0 : s.rg 16 = 0
        · have n0 : ((s.rg 16 : Int) == 0) = true := by rw [hn0]; rfl
          clear h hok hs h1 hc hb hp1 hp2 hp3 hor hn0
          go_enter Tryz.func32, Tryz.ntmps32
          go_wp2_with fail
          ((with_reducible refine HL.out.mono ?_); rintro x wz ⟨rfl, rfl⟩)
          clear HL
          go_wp2
          go_end0
          exact ⟨rfl, HF.out⟩
        · have n0 : ((s.rg 16 : Int) == 0) = false := by simp; omega
          by_cases hn1 : 4096 < s.rg 16
          · have n1 : decide ((4096 : Int) < (s.rg 16 : Int)) = true := by simp; omega
            clear h hok hs h1 hc hb hp1 hp2 hp3 hor hn0 hn1
            go_enter Tryz.func32, Tryz.ntmps32
            go_wp2_with fail
            ((with_reducible refine HL.out.mono ?_); rintro x wz ⟨rfl, rfl⟩)
            clear HL
            go_wp2
            go_end0
            exact ⟨rfl, HF.out⟩
          · have n1 : decide ((4096 : Int) < (s.rg 16 : Int)) = false := by simp; omega
            have hor2 : ((bits .or .u64 (bits .or .u64 (s.rg 0 : Int) (s.rg 8 : Int)) (s.rg 16 : Int)).tmod 8 != 0) = true := by
              unfold bne; rw [hor]; unfold badE at hb; simp at hb ⊢; omega
            clear h hok hs h1 hc hb hp1 hp2 hp3 hor hn0 hn1
            go_enter Tryz.func32, Tryz.ntmps32
            go_wp2_with fail
            ((with_reducible refine HL.out.mono ?_); rintro x wz ⟨rfl, rfl⟩)
            clear HL
            go_wp2_with fail
            ((with_reducible refine HS.out.mono ?_); rintro x wz ⟨rfl, rfl⟩)
            clear HS
            go_wp2_with fail
            ((with_reducible refine HD.out.mono ?_); rintro x wz ⟨rfl, rfl⟩)
            clear HD
            go_wp2
            go_end0
            exact ⟨rfl, HF.out⟩
      | false =>
        have hc : cmdE s v = { s with st := 1, cp := 0 } := by unfold cmdE; rw [if_neg hs, if_pos h1, hb]; rfl
        rw [hc]
        have HF := Lib.hid (And.intro (hp1.1.trans hp2.1) hp2.2)
        have n0 : ((s.rg 16 : Int) == 0) = false := by unfold badE at hb; simp at hb ⊢; omega
        have n1 : decide ((4096 : Int) < (s.rg 16 : Int)) = false := by unfold badE at hb; simp at hb ⊢; omega
        have hor2 : ((bits .or .u64 (bits .or .u64 (s.rg 0 : Int) (s.rg 8 : Int)) (s.rg 16 : Int)).tmod 8 != 0) = false := by
          unfold bne; rw [hor]; unfold badE at hb; simp at hb ⊢; omega
        clear h hok hs h1 hc hb hp1 hp2 hp3 hor
        go_enter Tryz.func32, Tryz.ntmps32
        go_wp2_with fail
        ((with_reducible refine HL.out.mono ?_); rintro x wz ⟨rfl, rfl⟩)
        clear HL
        go_wp2_with fail
        ((with_reducible refine HS.out.mono ?_); rintro x wz ⟨rfl, rfl⟩)
        clear HS
        go_wp2_with fail
        ((with_reducible refine HD.out.mono ?_); rintro x wz ⟨rfl, rfl⟩)
        clear HD
        go_wp2
        go_end0
        exact ⟨rfl, HF.out⟩
    · have hv1 : (bits .and .u64 (v : Int) 1 != 0) = false := by rw [and1_u v hv, show v % 2 = 0 by omega]; rfl
      by_cases h2 : v / 2 % 2 = 1
      · have hv2 : (bits .and .u64 (v : Int) 2 != 0) = true := by rw [and2_u v hv, h2]; rfl
        have hc : cmdE s v = { s with st := 0 } := by unfold cmdE; rw [if_neg hs, if_neg h1, if_pos h2]
        rw [hc]
        have HF := Lib.hid (h.put (s' := { s with st := 0 }) 3 (.int .u64 0) (fun _ _ _ => rfl) rfl)
        clear h hok hs h1 h2 hc
        go_enter Tryz.func32, Tryz.ntmps32
        go_wp2
        go_end0
        exact ⟨rfl, HF.out⟩
      · have hv2 : (bits .and .u64 (v : Int) 2 != 0) = false := by rw [and2_u v hv, show v / 2 % 2 = 0 by omega]; rfl
        have hc : cmdE s v = s := by unfold cmdE; rw [if_neg hs, if_neg h1, if_neg h2]
        rw [hc]
        have HF := Lib.hid (And.intro (Step.refl (· = c) own w) h)
        clear h hok hs h1 h2 hc
        go_enter Tryz.func32, Tryz.ntmps32
        go_wp2
        go_end0
        exact ⟨rfl, HF.out⟩
/-- a register is stored -/
theorem EngAt.stored (h : EngAt own c w e mp way s) : ∃ rb kv, own rb = c ∧ w.cell? ⟨e, 2, none⟩ = some (.map (some rb)) ∧ MapB Tryz.prog 23 encU w rb kv ∧
    ∀ (k x : Nat) (w' : World) (y : Value), y = Value.int .u64 (x : Int) → MapB Tryz.prog 23 encU w' rb (kvPut kv k y) → Upd (· = rb) w w' → Step (· = c) own w own w' ∧ EngAt own c w' e mp way (putE s k x) := by
  obtain ⟨rb, dn, rd, hb, ho, ⟨hro, kv, hm, hk⟩, hd⟩ := h
  refine ⟨rb, kv, hro, hb.cell 2, hm, ?_⟩
  rintro k x w' y rfl hm' hU
  have hne : e ≠ rb := fun he => (hb.ne_map hm) he.symm
  refine ⟨⟨hU.mono (fun i _ h => by rw [h]; exact hro), fun _ _ => rfl⟩, rb, dn, rd, hb.upd hU hne, ho, ⟨hro, _, hm', fun k' => ?_⟩, ?_⟩
  · rw [kvGet_put]
    show _ = Value.int .u64 ((if k' = k then x else s.rg k' : Nat) : Int)
    by_cases hkk : k' = k
    · rw [if_pos hkk, if_pos hkk]; rfl
    · rw [if_neg hkk, if_neg hkk]; exact hk k'
  · rcases hd with h | ⟨h1, fb, h2, h3, hfo, hfm⟩
    · exact .inl h
    · exact .inr ⟨h1, fb, h2, h3, hfo, hfm.upd hU h3⟩
set_option maxHeartbeats 1500000 in
theorem eng_set (h : EngAt own c w e mp way s) (hok : EgOk s) (off : Nat) (hoff : off < 56) (size : Int) (hsz : size = 4 ∨ size = 8) (hmod : (off : Int) % size = 0) (v : Nat) (hv : v < 18446744073709551616) :
    Calls Tryz.prog 33 #[.pointer (some ⟨e, 0, none⟩), .int .u64 (off : Int), .int .i64 size, .int .u64 (v : Int)] w fun x w' => x = .returned (.tuple #[]) ∧ Step (· = c) own w own w' ∧ EngAt own c w' e mp way (putE s (off / 8 * 8) (setE (s.rg (off / 8 * 8)) off size v)) := by
  obtain ⟨_, _, c3, c4, z3, z4, hlt⟩ := h.cells
  obtain ⟨rb0, c2', hr⟩ := h.reg
  obtain ⟨rb, kv, hro, c2, hm, hst⟩ := h.stored
  obtain rfl : rb0 = rb := by rw [c2] at c2'; cases c2'; rfl
  have ha := andNot7 off hoff
  obtain ⟨k, hk⟩ : ∃ k, off / 8 * 8 = k := ⟨_, rfl⟩
  rw [hk] at ha ⊢
  have hk64 : k < 18446744073709551616 := by omega
  have hl := hr.look k hk64 (k : Int) rfl
  have hold := hok.rg k
  have HST := Lib.hid (And.intro hm hst)
  rcases hsz with rfl | rfl
  · by_cases h4 : off % 8 = 0
    · have h4b : (bits .and .u64 (off : Int) 4 == 0) = true := by rw [and4_u off hoff, show off / 4 % 2 = 0 by omega]; rfl
      obtain ⟨N, hN⟩ : ∃ N, setE (s.rg k) off 4 v = N := ⟨_, rfl⟩
      have hor : bits .or .u64 ((s.rg k : Int) / 4294967296 * 4294967296) ((v : Int) % 4294967296) = (N : Int) := by rw [← hN]; unfold setE; rw [if_neg (by decide), if_pos h4]; exact orLo _ _ hold
      clear h4
      clear h hr hst hm hok c2' hk hmod
      go_enter Tryz.func33, Tryz.ntmps33
      go_wp2_with ((with_reducible show wpList _ _ _ ((⟨none, _, _, _, _, _⟩ : Oper) :: _) _ _); refine wpList_storeB rfl _ _ _ _ rfl HST.out.1 keyU encU_inj Tryz.underlying106 rfl (a := k) rfl (keyU_mk k hk64) (.int .u64 (N : Int)) rfl ?_; intro w9 hM9 hU9)
      have HF := Lib.hid (HST.out.2 k N w9 _ rfl hM9 hU9)
      clear hM9 hU9 HST
      go_end0
      exact ⟨rfl, HF.out⟩
    · have h4b : (bits .and .u64 (off : Int) 4 == 0) = false := by rw [and4_u off hoff, show off / 4 % 2 = 1 by omega]; rfl
      obtain ⟨N, hN⟩ : ∃ N, setE (s.rg k) off 4 v = N := ⟨_, rfl⟩
      have hor : bits .or .u64 ((s.rg k : Int) % 4294967296) (IntKind.u64.wrap ((v : Int) * 4294967296)) = (N : Int) := by rw [← hN]; unfold setE; rw [if_neg (by decide), if_neg h4]; exact orHi _ _
      clear h4
      clear h hr hst hm hok c2' hk hmod
      go_enter Tryz.func33, Tryz.ntmps33
      go_wp2_with ((with_reducible show wpList _ _ _ ((⟨none, _, _, _, _, _⟩ : Oper) :: _) _ _); refine wpList_storeB rfl _ _ _ _ rfl HST.out.1 keyU encU_inj Tryz.underlying106 rfl (a := k) rfl (keyU_mk k hk64) (.int .u64 (N : Int)) rfl ?_; intro w9 hM9 hU9)
      have HF := Lib.hid (HST.out.2 k N w9 _ rfl hM9 hU9)
      clear hM9 hU9 HST
      go_end0
      exact ⟨rfl, HF.out⟩
  · rw [show setE (s.rg k) off 8 v = v from if_pos rfl]
    clear h hr hst hm hok c2' hk hmod
    go_enter Tryz.func33, Tryz.ntmps33
    go_wp2_with ((with_reducible show wpList _ _ _ ((⟨none, _, _, _, _, _⟩ : Oper) :: _) _ _); refine wpList_storeB rfl _ _ _ _ rfl HST.out.1 keyU encU_inj Tryz.underlying106 rfl (a := k) rfl (keyU_mk k hk64) (.int .u64 (v : Int)) rfl ?_; intro w9 hM9 hU9)
    have HF := Lib.hid (HST.out.2 k v w9 _ rfl hM9 hU9)
    clear hM9 hU9 HST
    go_end0
    exact ⟨rfl, HF.out⟩
/-- a write -/
theorem eng_Write (h : EngAt own c w e mp way s) (hok : EgOk s) (off : Nat) (hoff : off < 18446744073709551616) (size : Int) (hs0 : -9223372036854775808 ≤ size) (hs1 : size ≤ 9223372036854775807) (v : Nat) (hv : v < 18446744073709551616) :
    Calls Tryz.prog 11 #[.pointer (some ⟨e, 0, none⟩), .int .u64 (off : Int), .int .i64 size, .int .u64 (v : Int)] w fun x w' => x = .returned (.bool (fitsE off size)) ∧ Step (· = c) own w own w' ∧ EngAt own c w' e mp way (writeE s off size v) := by
  obtain ⟨_, _, c3, c4, z3, z4, hlt⟩ := h.cells
  have HFi := Lib.hid (eng_fits off hoff size hs0 hs1 w)
  cases hf : fitsE off size with
  | false =>
    rw [hf] at HFi
    rw [show writeE s off size v = s from by unfold writeE; rw [hf]; rfl]
    have HF := Lib.hid (And.intro (Step.refl (· = c) own w) h)
    clear h hok hf
    go_enter Tryz.func11, Tryz.ntmps11
    go_wp2_with fail
    ((with_reducible refine HFi.out.mono ?_); rintro x wz ⟨rfl, rfl⟩)
    clear HFi
    go_wp2
    go_ret
    exact ⟨rfl, HF.out⟩
  | true =>
    rw [hf] at HFi
    obtain ⟨hsz, hmod, hoff2⟩ : (size = 4 ∨ size = 8) ∧ (off : Int) % size = 0 ∧ off < 56 := by
      unfold fitsE at hf
      simp only [Bool.and_eq_true, Bool.or_eq_true, beq_iff_eq, decide_eq_true_eq] at hf
      exact ⟨hf.1.1, hf.1.2, hf.2⟩
    have ha := andNot7 off hoff2
    have hwr : writeE s off size v = if off / 8 * 8 = 24 then (if off = 24 then cmdE s v else s) else if off / 8 * 8 = 32 then s else if s.st = 1 then s else putE s (off / 8 * 8) (setE (s.rg (off / 8 * 8)) off size v) := by
      unfold writeE; rw [hf]; rfl
    rw [hwr]
    have hse := eng_set h hok off hoff2 size hsz hmod v hv
    have hcm := eng_command h hok v hv
    obtain ⟨k, hk⟩ : ∃ k, off / 8 * 8 = k := ⟨_, rfl⟩
    rw [hk] at ha hse ⊢
    by_cases hk24 : k = 24
    · rw [if_pos hk24]
      have k1 : ((k : Int) == 24) = true := by rw [hk24]; rfl
      by_cases ho24 : off = 24
      · rw [if_pos ho24]
        have k2 : ((off : Int) == 24) = true := by rw [ho24]; rfl
        have HC := Lib.hid hcm
        clear h hok hf hsz hmod hwr hse hcm hk hk24 ho24
        go_enter Tryz.func11, Tryz.ntmps11
        go_wp2_with fail
        ((with_reducible refine HFi.out.mono ?_); rintro x wz ⟨rfl, rfl⟩)
        clear HFi
        go_wp2_with fail
        ((with_reducible refine HC.out.mono ?_); rintro x w1 ⟨rfl, h1⟩)
        have HF := Lib.hid h1
        clear HC h1
        go_wp2
        go_ret
        exact ⟨rfl, HF.out⟩
      · rw [if_neg ho24]
        have k2 : ((off : Int) == 24) = false := by simp; omega
        have HF := Lib.hid (And.intro (Step.refl (· = c) own w) h)
        clear h hok hf hsz hmod hwr hse hcm hk hk24 ho24
        go_enter Tryz.func11, Tryz.ntmps11
        go_wp2_with fail
        ((with_reducible refine HFi.out.mono ?_); rintro x wz ⟨rfl, rfl⟩)
        clear HFi
        go_wp2
        go_ret
        exact ⟨rfl, HF.out⟩
    · rw [if_neg hk24]
      have k1 : ((k : Int) == 24) = false := by simp; omega
      by_cases hk32 : k = 32
      · rw [if_pos hk32]
        have k2 : ((k : Int) == 32) = true := by rw [hk32]; rfl
        have HF := Lib.hid (And.intro (Step.refl (· = c) own w) h)
        clear h hok hf hsz hmod hwr hse hcm hk hk24 hk32
        go_enter Tryz.func11, Tryz.ntmps11
        go_wp2_with fail
        ((with_reducible refine HFi.out.mono ?_); rintro x wz ⟨rfl, rfl⟩)
        clear HFi
        go_wp2
        go_ret
        exact ⟨rfl, HF.out⟩
      · rw [if_neg hk32]
        have k2 : ((k : Int) == 32) = false := by simp; omega
        by_cases hs : s.st = 1
        · rw [if_pos hs]
          have k3 : ((s.st : Int) == 1) = true := by rw [hs]; rfl
          have k4 : ((s.st : Int) != 1) = false := by rw [hs]; rfl
          have HF := Lib.hid (And.intro (Step.refl (· = c) own w) h)
          clear h hok hf hsz hmod hwr hse hcm hk hk24 hk32 hs
          go_enter Tryz.func11, Tryz.ntmps11
          go_wp2_with fail
          ((with_reducible refine HFi.out.mono ?_); rintro x wz ⟨rfl, rfl⟩)
          clear HFi
          go_wp2
          go_ret
          exact ⟨rfl, HF.out⟩
        · rw [if_neg hs]
          have k3 : ((s.st : Int) == 1) = false := by simp; omega
          have k4 : ((s.st : Int) != 1) = true := by simp; omega
          have HC := Lib.hid hse
          clear h hok hf hsz hmod hwr hse hcm hk hk24 hk32 hs
          go_enter Tryz.func11, Tryz.ntmps11
          go_wp2_with fail
          ((with_reducible refine HFi.out.mono ?_); rintro x wz ⟨rfl, rfl⟩)
          clear HFi
          go_wp2_with fail
          ((with_reducible refine HC.out.mono ?_); rintro x w1 ⟨rfl, h1⟩)
          have HF := Lib.hid h1
          clear HC h1
          go_wp2
          go_ret
          exact ⟨rfl, HF.out⟩
end
end Go.Proofs.YtonhlgfgbdiapaaGreat
