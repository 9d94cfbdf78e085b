import Derived.Test.YtpodeclkgcgpgaaPool4
namespace Go.Proofs.Ytpodeclkgcgpgaa
set_option linter.unusedVariables false
open Go.RowKit
set_option maxRecDepth 100000

/-- what an acknowledgement comes to: owners, waits, the memory, how many became free -/
def notB (bit : Int) : Int := bits .xor .u64 IntKind.u64.max bit
structure PSt where
  ow : List Int
  bt : List Int
  m : Nat → Int
  cnt : Nat
def ack1 (nb : Int) (s : PSt) (k : Nat) : PSt :=
  if s.ow.getD k 0 = -2 then
    if bits .and .u64 (s.bt.getD k 0) nb = 0 then ⟨s.ow.set k 0, s.bt.set k 0, clrF s.m k, s.cnt + 1⟩
    else ⟨s.ow, s.bt.set k (bits .and .u64 (s.bt.getD k 0) nb), s.m, s.cnt⟩
  else s
def ackN (nb : Int) (s : PSt) : Nat → PSt
  | 0 => s
  | k + 1 => ack1 nb (ackN nb s k) k
theorem ack1_len (nb : Int) (s : PSt) (k : Nat) : (ack1 nb s k).ow.length = s.ow.length ∧ (ack1 nb s k).bt.length = s.bt.length ∧ (ack1 nb s k).cnt ≤ s.cnt + 1 := by
  unfold ack1; repeat' split
  all_goals simp
theorem ackN_len (nb : Int) (s : PSt) (k : Nat) : (ackN nb s k).ow.length = s.ow.length ∧ (ackN nb s k).bt.length = s.bt.length ∧ (ackN nb s k).cnt ≤ s.cnt + k := by
  induction k with
  | zero => simp [ackN]
  | succ k ih =>
    have := ack1_len nb (ackN nb s k) k
    simp only [ackN]; omega
section
variable {own own' : Nat → Nat} {c cr pp rp qo qb n base : Nat} {res harts : Int} {d : Bool} {ow bt : List Int} {w w' : World} {m : Nat → Int}
/-- a pool, and its memory -/
def PM (own : Nat → Nat) (c cr : Nat) (w : World) (pp rp base n : Nat) (res harts : Int) (s : PSt) : Prop := PoolAt own c w pp rp n res harts s.ow s.bt ∧ MemAt ramK own cr w rp base n s.m
theorem pool_acked (hcc : c ≠ cr) (bit : Int) (hb0 : 0 ≤ bit) (hb1 : bit < 18446744073709551616) (s : PSt) (hs : s.cnt = 0) (h : PM own c cr w pp rp base n res harts s) :
    Calls Try.prog 83 #[.pointer (some ⟨pp, 0, none⟩), .int .u64 bit] w fun e w' => e = .returned (.int .i64 ((ackN (notB bit) s n).cnt : Int)) ∧
      ∃ own', Step (fun x => x = c ∨ x = cr) own w own' w' ∧ PM own' c cr w' pp rp base n res harts (ackN (notB bit) s n) := by
  have hn : n ≤ 1024 := h.2.sizes.2.2
  obtain ⟨⟨qo, qb, d, hP⟩, hM⟩ := h
  have h3 := hP.c3
  have hlo := hP.lo
  have H0 := Lib.hid (And.intro hP hM)
  have HS := Lib.hid hs
  clear hP hM hs
  go_enter Try.func83, Try.ntmps83
  go_wp2
  go_loopw [5, 14] (fun x i wr => ∃ k : Nat, k ≤ n ∧ i = .int .i64 (k : Int) ∧ x = .int .i64 ((ackN (notB bit) s k).cnt : Int) ∧ Hid (∃ own' qb d, Step (fun x => x = c ∨ x = cr) own w own' wr ∧ PoolIn own' c wr pp rp qo qb n res harts d (ackN (notB bit) s k).ow (ackN (notB bit) s k).bt ∧ MemAt ramK own' cr wr rp base n (ackN (notB bit) s k).m)) (fun _ i _ => n - (intOf i).toNat)
  case atStart => exact ⟨0, by omega, rfl, by rw [ackN, HS.out]; rfl, own, qb, d, Step.refl _ _ _, H0.out.1, H0.out.2⟩
  case round =>
    obtain ⟨k, hk, rfl, rfl, HR⟩ := hrel
    by_cases hlt : k < n
    · have HN := Lib.hid (show ackN (notB bit) s (k + 1) = ack1 (notB bit) (ackN (notB bit) s k) k from rfl)
      have hcn := (ackN_len (notB bit) s k).2.2
      rw [HS.out] at hcn
      obtain ⟨s1, hs1⟩ : ∃ s1, ackN (notB bit) s k = s1 := ⟨_, rfl⟩
      rw [hs1] at HR HN hcn
      rw [hs1]
      have hsh := Lib.hid hs1
      clear hs1
      obtain ⟨own1, qb1, d1, hS, hP, hM⟩ := HR.out
      clear HR
      have hc := hP.cellO k
      obtain ⟨v, hv⟩ : ∃ v, s1.ow[k]? = some v := ⟨_, List.getElem?_eq_getElem (by rw [hP.lo]; omega)⟩
      obtain ⟨u, hu⟩ : ∃ u, s1.bt[k]? = some u := ⟨_, List.getElem?_eq_getElem (by rw [hP.lb]; omega)⟩
      rw [hv, Option.map_some] at hc
      have hp3 := hP.c3
      have HV := Lib.hid (And.intro hv hu)
      have H1 := Lib.hid (And.intro hS (And.intro hP hM))
      clear hS hP hM hv hu
      by_cases he : v = -2
      · subst he
        go_wp2_with fail
        refine (pool_waits H1.out.2.1).mono ?_; rintro e w2 ⟨qb2, own2, rfl, hS2, hP2⟩
        have hM2 := H1.out.2.2.step hS2 (by simpa using hcc.symm)
        have hc2 := hP2.cellB k
        have hz2 := (hP2.bb rfl).1.frozen k
        rw [HV.out.2, Option.map_some] at hc2
        have H2 := Lib.hid (And.intro (H1.out.1.trans (hS2.mono (fun x h => .inl h))) (And.intro hP2 hM2))
        clear hS2 hP2 hM2 H1
        go_wp2_with fail
        refine (au_And _ u (notB bit) _ hc2 hz2).mono ?_; rintro e w3 ⟨rfl, rfl⟩
        have HA := Lib.hid (show ack1 (notB bit) s1 k = if bits .and .u64 u (notB bit) = 0 then ⟨s1.ow.set k 0, s1.bt.set k 0, clrF s1.m k, s1.cnt + 1⟩ else ⟨s1.ow, s1.bt.set k (bits .and .u64 u (notB bit)), s1.m, s1.cnt⟩ from by simp [ack1, HV.out.1, HV.out.2])
        have hS3 := H2.out.2.1.stepB k (.int .u64 (bits .and .u64 u (notB bit)))
        have hP3 := H2.out.2.1.setB_ k (bits .and .u64 u (notB bit))
        have hM3 := H2.out.2.2.step hS3 (fun h => hcc h.symm)
        have hS3' := H2.out.1.trans (hS3.mono (fun x h => Or.inl h))
        generalize bits .and .u64 u (notB bit) = b at *
        generalize w2.setCell ⟨qb2, k, none⟩ (.int .u64 b) = w3 at *
        have hcb := hP3.cellB k
        rw [List.getElem?_set_self (by rw [H2.out.2.1.lb]; omega), Option.map_some] at hcb
        have hp0 := hP3.c0
        have H3 := Lib.hid (And.intro hS3' (And.intro hP3 hM3))
        clear hS3 hP3 hM3 hS3' hc2 hz2 H2 hc hp3
        go_wp2_with fail
        refine (au_Load _ b _ hcb).mono ?_; rintro e w4 ⟨rfl, rfl⟩
        by_cases hb : b = 0
        · subst hb
          go_wp2_with fail
          refine (ram_Clear H3.out.2.2 k (by omega)).mono ?_; rintro e w4 ⟨rfl, hS4, hM4⟩
          have hP4 := H3.out.2.1.step hS4 hcc
          have hp4 := hP4.c3
          have hc4 := hP4.cellO k
          have hz4 := hP4.bo.frozen k
          rw [HV.out.1, Option.map_some] at hc4
          have H4 := Lib.hid (And.intro (H3.out.1.trans (hS4.mono (fun x h => Or.inr h))) (And.intro hP4 hM4))
          clear hS4 hP4 hM4 H3 hcb hp0
          go_wp2
          have hS5 := H4.out.2.1.stepO k (.int .i64 0)
          refine ⟨⟨k + 1, by omega, by go_num, ?_, ?_⟩, by simp [intOf]; omega⟩
          · rw [HN.out, HA.out, if_pos trivial]; rfl
          · rw [HN.out, HA.out, if_pos trivial]
            exact ⟨_, _, _, H4.out.1.trans (hS5.mono (fun x h => Or.inl h)), H4.out.2.1.setO k 0, H4.out.2.2.step hS5 (fun h => hcc h.symm)⟩
        · go_wp2
          refine ⟨⟨k + 1, by omega, by go_num, ?_, ?_⟩, by simp [intOf]; omega⟩
          · rw [HN.out, HA.out, if_neg hb]
          · rw [HN.out, HA.out, if_neg hb]
            exact ⟨_, _, _, H3.out.1, H3.out.2.1, H3.out.2.2⟩
      · go_wp2
        refine ⟨⟨k + 1, by omega, by go_num, ?_, ?_⟩, by simp [intOf]; omega⟩
        · rw [HN.out]; simp [ack1, HV.out.1, he]
        · rw [HN.out]
          have : ack1 (notB bit) s1 k = s1 := by simp [ack1, HV.out.1, he]
          rw [this]
          exact ⟨own1, qb1, d1, H1.out.1, H1.out.2.1, H1.out.2.2⟩
    · obtain rfl : k = n := by omega
      go_wp2
      go_ret
      obtain ⟨own1, qb1, d1, hS, hP, hM⟩ := HR.out
      exact ⟨rfl, own1, hS, ⟨_, _, _, hP⟩, hM⟩
/-- the devices' bit; a hart's -/
def ackP (harts n : Nat) (s : PSt) (hart : Int) : PSt := if decide (0 ≤ hart ∧ hart < harts) then ackN (notB (2 ^ hart.toNat)) s n else s
theorem pool_AckDevices (hcc : c ≠ cr) (s : PSt) (hs : s.cnt = 0) (h : PM own c cr w pp rp base n res harts s) :
    Calls Try.prog 23 #[.pointer (some ⟨pp, 0, none⟩)] w fun e w' => e = .returned (.int .i64 ((ackN (notB 9223372036854775808) s n).cnt : Int)) ∧
      ∃ own', Step (fun x => x = c ∨ x = cr) own w own' w' ∧ PM own' c cr w' pp rp base n res harts (ackN (notB 9223372036854775808) s n) := by
  have HA := Lib.hid (pool_acked hcc 9223372036854775808 (by omega) (by omega) s hs h)
  clear h
  go_enter Try.func23, Try.ntmps23
  go_wp2_with fail
  refine HA.out.mono ?_; rintro e w1 ⟨rfl, own1, hS, hP⟩
  have H1 := Lib.hid (And.intro hS hP)
  clear hS hP
  go_wp2
  go_ret
  exact ⟨rfl, own1, H1.out⟩
theorem pool_Ack {hn : Nat} (h8 : hn ≤ 8) (hcc : c ≠ cr) (s : PSt) (hs : s.cnt = 0) (h : PM own c cr w pp rp base n res hn s) (k : Int) (hk0 : -9223372036854775808 ≤ k) (hk1 : k ≤ 9223372036854775807) :
    Calls Try.prog 22 #[.pointer (some ⟨pp, 0, none⟩), .int .i64 k] w fun e w' => e = .returned (.int .i64 ((ackP hn n s k).cnt : Int)) ∧
      ∃ own', Step (fun x => x = c ∨ x = cr) own w own' w' ∧ PM own' c cr w' pp rp base n res hn (ackP hn n s k) := by
  have h2 : w.cell? ⟨pp, 2, none⟩ = some (.int .i64 (hn : Int)) := by obtain ⟨⟨qo, qb, d, hP⟩, _⟩ := h; exact hP.c2
  by_cases hk : 0 ≤ k ∧ k < hn
  · have hA : ackP hn n s k = ackN (notB (2 ^ k.toNat)) s n := by simp [ackP, hk]
    rw [hA]
    obtain ⟨j, rfl⟩ := Int.eq_ofNat_of_zero_le hk.1
    have hp : (2 : Int) ^ j < 18446744073709551616 := by
      have : j = 0 ∨ j = 1 ∨ j = 2 ∨ j = 3 ∨ j = 4 ∨ j = 5 ∨ j = 6 ∨ j = 7 := by omega
      rcases this with rfl | rfl | rfl | rfl | rfl | rfl | rfl | rfl <;> decide
    have HA := Lib.hid (pool_acked hcc (2 ^ j) (by have := Int.pow_pos (n := 2) (m := j) (by decide); omega) hp s hs h)
    simp only [Int.toNat_natCast]
    have hwr : IntKind.u64.wrap ((2 : Int) ^ j) = 2 ^ j := IntWalk.u64_in _ (by have := Int.pow_pos (n := 2) (m := j) (by decide); omega)
    have HWR := Lib.hid hwr
    clear h hA hp hwr
    go_enter Try.func22, Try.ntmps22
    go_wp2_with fail
    rw [HWR.out]
    refine HA.out.mono ?_; rintro e w1 ⟨rfl, own1, hS, hP⟩
    have H1 := Lib.hid (And.intro hS hP)
    clear hS hP
    go_wp2
    go_ret
    exact ⟨rfl, own1, H1.out⟩
  · have hA : ackP hn n s k = s := by simp [ackP]; omega
    rw [hA, hs]
    have HP := Lib.hid h
    clear h hA
    have hcs : k < 0 ∨ (0 ≤ k ∧ (hn : Int) ≤ k) := by omega
    rcases hcs with hc1 | ⟨hc1, hc2⟩
    all_goals
      go_enter Try.func22, Try.ntmps22
      go_wp2
      go_ret
      exact ⟨rfl, own, Step.refl _ _ _, HP.out⟩
/-- what a released frame waits for: the devices, each hart -/
def allB (h : Nat) : Int := bits .or .u64 9223372036854775808 (2 ^ h - 1)
def relOk (res : Int) (ow : List Int) (f : Int) : Bool := thereP ow.length f && (decide (res ≤ f) && (ow.getD f.toNat 0 != 0 && ow.getD f.toNat 0 != -2))
def relP (res : Int) (h : Nat) (s : PSt) (f : Int) : PSt := if relOk res s.ow f then ⟨s.ow.set f.toNat (-2), s.bt.set f.toNat (allB h), s.m, s.cnt⟩ else s
theorem pool_Release {hn : Nat} (h8 : hn ≤ 8) (hcc : c ≠ cr) (s : PSt) (h : PM own c cr w pp rp base n res hn s) (f : Int) :
    Calls Try.prog 21 #[.pointer (some ⟨pp, 0, none⟩), .int .i64 f] w fun e w' => e = .returned (.int .i64 (if relOk res s.ow f then 0 else 11)) ∧
      ∃ own', Step (fun x => x = c ∨ x = cr) own w own' w' ∧ PM own' c cr w' pp rp base n res hn (relP res hn s f) := by
  obtain ⟨⟨qo, qb, d, hP⟩, hM⟩ := h
  have hn1 : n ≤ 1024 := hP.hn
  have h3 := hP.c3
  have h1 := hP.c1
  have h2 := hP.c2
  have hlo := hP.lo
  have HT := Lib.hid (pool_there h3 f)
  have H0 := Lib.hid (And.intro hP hM)
  clear hP hM
  by_cases hf : thereP n f = true
  · obtain ⟨f0, f1⟩ := thereP_iff.1 hf
    obtain ⟨k, rfl⟩ := Int.eq_ofNat_of_zero_le f0
    obtain ⟨v, hv⟩ : ∃ v, s.ow[k]? = some v := ⟨_, List.getElem?_eq_getElem (by omega)⟩
    have hc := H0.out.1.cellO k
    have hz := H0.out.1.bo.frozen k
    rw [hv, Option.map_some] at hc
    have hR : relOk res s.ow (k : Int) = (decide (res ≤ k) && (v != 0 && v != -2)) := by simp [relOk, hlo, hf, hv]
    have HV := Lib.hid hv
    clear hv
    by_cases hok : res ≤ k ∧ ¬ v = 0 ∧ ¬ v = -2
    · obtain ⟨hr, hv0, hv2⟩ := hok
      have hR' : relOk res s.ow (k : Int) = true := by rw [hR]; simp [hr, hv0, hv2]
      have HRP := Lib.hid (show relP res hn s k = ⟨s.ow.set k (-2), s.bt.set k (allB hn), s.m, s.cnt⟩ from by simp [relP, hR'])
      rw [hR', if_pos rfl]
      clear hR hR'
      have e0 : (v == 0) = false := by simpa using hv0
      have e2 : (v == -2) = false := by simpa using hv2
      have er : decide ((k : Int) < res) = false := by simp; omega
      go_enter Try.func21, Try.ntmps21
      go_wp2_with fail
      refine HT.out.mono ?_; rintro e w' ⟨rfl, rfl⟩; rw [hf]
      go_wp2_with fail
      obtain ⟨u, hu⟩ : ∃ u, s.bt[k]? = some u := ⟨_, List.getElem?_eq_getElem (by rw [H0.out.1.lb]; omega)⟩
      have hp1 := Int.pow_pos (n := 2) (m := hn) (by decide)
      have hp2 : (2 : Int) ^ hn ≤ 256 := by
        have : hn = 0 ∨ hn = 1 ∨ hn = 2 ∨ hn = 3 ∨ hn = 4 ∨ hn = 5 ∨ hn = 6 ∨ hn = 7 ∨ hn = 8 := by omega
        rcases this with h | h | h | h | h | h | h | h | h <;> rw [h] <;> decide
      have hw8 : IntKind.u64.wrap ((2 : Int) ^ hn) = 2 ^ hn := IntWalk.u64_in _ (by omega)
      have hw9 : IntKind.u64.wrap ((2 : Int) ^ hn - 1) = 2 ^ hn - 1 := IntWalk.u64_in _ (by omega)
      have hS1 := (H0.out.1.stepO k (.int .i64 (-2))).drew
      have hP1 := (H0.out.1.setO k (-2)).step ((Step.refl (fun _ => False) own _).drew) (fun h => h)
      have hM1 := H0.out.2.step hS1 (fun h => hcc h.symm)
      have hc2 := hP1.c2
      have H1 := Lib.hid (And.intro hS1 (And.intro hP1 hM1))
      clear hS1 hP1 hM1
      refine wpE_region (S := fun (W' : World) => W'.cell? ⟨pp, 2, none⟩ = some (.int .i64 (hn : Int))) (s := 11) (by kernel_rfl) ?_
      have hS : (fun (W' : World) => W'.cell? ⟨pp, 2, none⟩ = some (.int .i64 (hn : Int))) _ := hc2
      refine wpE_take (i := 0) (oi := { dst := some 43, op := Go.Op.move (Go.Operand.tmp 0), type := 31, pos := "frame.go:73", after := #[], guard := none }) (v := ?_) rfl (by kernel_rfl) (fun _ _ _ h => h) (Or.inl ⟨by rfl, fun W hW => ?_⟩) hS ?_
      rotate_left
      · skip; go_simp; (try go_bits); (try rw [if_pos (by omega)]); (try with_reducible rfl)
      (try simp only [Act.put, List.setIfInBounds_toArray, List.set_cons_succ, List.set_cons_zero])
      refine wpE_take (i := 2) (oi := { dst := some 45, op := Go.Op.move (Go.Operand.tmp 1), type := 3, pos := "frame.go:73", after := #[], guard := none }) (v := ?_) rfl (by kernel_rfl) (fun _ _ _ h => h) (Or.inl ⟨by rfl, fun W hW => ?_⟩) hS ?_
      rotate_left
      · skip; go_simp; (try go_bits); (try rw [if_pos (by omega)]); (try with_reducible rfl)
      (try simp only [Act.put, List.setIfInBounds_toArray, List.set_cons_succ, List.set_cons_zero])
      refine wpE_take (i := 4) (oi := { dst := some 47, op := Go.Op.move (Go.Operand.tmp 0), type := 31, pos := "frame.go:73", after := #[], guard := none }) (v := ?_) rfl (by kernel_rfl) (fun _ _ _ h => h) (Or.inl ⟨by rfl, fun W hW => ?_⟩) hS ?_
      rotate_left
      · skip; go_simp; (try go_bits); (try rw [if_pos (by omega)]); (try with_reducible rfl)
      (try simp only [Act.put, List.setIfInBounds_toArray, List.set_cons_succ, List.set_cons_zero])
      refine wpE_take (i := 5) (oi := { dst := some 48, op := Go.Op.nilCheck (Go.Operand.tmp 47), type := 0, pos := "frame.go:73", after := #[{ on := 4, ground := Go.Ground.data }], guard := none }) (v := ?_) rfl (by kernel_rfl) (fun _ _ _ h => h) (Or.inl ⟨by rfl, fun W hW => ?_⟩) hS ?_
      rotate_left
      · skip; go_simp; (try go_bits); (try rw [if_pos (by omega)]); (try with_reducible rfl)
      (try simp only [Act.put, List.setIfInBounds_toArray, List.set_cons_succ, List.set_cons_zero])
      refine wpE_take (i := 6) (oi := { dst := some 49, op := Go.Op.fieldAddr 163 (Go.Operand.tmp 48) 2, type := 0, pos := "frame.go:73", after := #[{ on := 5, ground := Go.Ground.data }], guard := none }) (v := ?_) rfl (by kernel_rfl) (fun _ _ _ h => h) (Or.inl ⟨by rfl, fun W hW => ?_⟩) hS ?_
      rotate_left
      · skip; go_simp; (try go_bits); (try rw [if_pos (by omega)]); (try with_reducible rfl)
      (try simp only [Act.put, List.setIfInBounds_toArray, List.set_cons_succ, List.set_cons_zero])
      refine wpE_take (i := 7) (oi := { dst := some 50, op := Go.Op.load 3 (Go.Operand.tmp 49), type := 3, pos := "frame.go:73", after := #[{ on := 6, ground := Go.Ground.data }], guard := none }) (v := ?_) rfl (by kernel_rfl) (fun _ _ _ h => h) (Or.inl ⟨by rfl, fun W hW => ?_⟩) hS ?_
      rotate_left
      · skip; go_simp; (try go_bits); (try rw [if_pos (by omega)]); (try with_reducible rfl)
      (try simp only [Act.put, List.setIfInBounds_toArray, List.set_cons_succ, List.set_cons_zero])
      refine wpE_take (i := 8) (oi := { dst := some 51, op := Go.Op.binOp Go.BinOp.shl 30 (Go.Operand.const (Go.Value.int Go.IntKind.u64 1)) (Go.Operand.tmp 50) 3, type := 30, pos := "frame.go:73", after := #[{ on := 7, ground := Go.Ground.data }], guard := none }) (v := .int .u64 (2 ^ hn)) rfl (by kernel_rfl) (fun _ _ _ h => h) (Or.inl ⟨by rfl, fun W hW => ?_⟩) hS ?_
      · skip; go_simp; (try rw [hw8])
      (try simp only [Act.put, List.setIfInBounds_toArray, List.set_cons_succ, List.set_cons_zero])
      refine wpE_take (i := 9) (oi := { dst := some 52, op := Go.Op.binOp Go.BinOp.sub 30 (Go.Operand.tmp 51) (Go.Operand.const (Go.Value.int Go.IntKind.u64 1)) 30, type := 30, pos := "frame.go:73", after := #[{ on := 8, ground := Go.Ground.data }], guard := none }) (v := .int .u64 (2 ^ hn - 1)) rfl (by kernel_rfl) (fun _ _ _ h => h) (Or.inl ⟨by rfl, fun W hW => ?_⟩) hS ?_
      · skip; go_simp; (try rw [hw9])
      (try simp only [Act.put, List.setIfInBounds_toArray, List.set_cons_succ, List.set_cons_zero])
      refine wpE_take (i := 10) (oi := { dst := some 53, op := Go.Op.binOp Go.BinOp.or 30 (Go.Operand.const (Go.Value.int Go.IntKind.u64 9223372036854775808)) (Go.Operand.tmp 52) 30, type := 30, pos := "frame.go:73", after := #[{ on := 9, ground := Go.Ground.data }], guard := none }) (v := .int .u64 (allB hn)) rfl (by kernel_rfl) (fun _ _ _ h => h) (Or.inl ⟨by rfl, fun W hW => ?_⟩) hS ?_
      · skip; go_simp; rfl
      (try simp only [Act.put, List.setIfInBounds_toArray, List.set_cons_succ, List.set_cons_zero])
      refine wpE_only (i := 1) (oi := { dst := some 44, op := Go.Op.call { callee := Go.Callee.value (Go.Operand.func 81), args := #[Go.Operand.tmp 43], argTypes := #[31] }, type := 161, pos := "frame.go:73", after := #[{ on := 0, ground := Go.Ground.data }], guard := none }) rfl (by kernel_rfl) (by rfl) (fun K hK => ?_)
      go_simp; refine (pool_waits H1.out.2.1).mono ?_; rintro e w2 ⟨qb2, own2, rfl, hS2, hP2⟩
      have hS := hP2.c2
      have hM2 := H1.out.2.2.step hS2 (fun h => hcc h.symm)
      have H2 := Lib.hid (And.intro (H1.out.1.trans hS2) (And.intro hP2 hM2))
      clear hS2 hP2 hM2
      refine hK _ _ hS ?_; clear hK K
      (try simp only [Act.put, List.setIfInBounds_toArray, List.set_cons_succ, List.set_cons_zero])
      refine wpE_take (i := 3) (oi := { dst := some 46, op := Go.Op.indexAddr 161 (Go.Operand.tmp 44) (Go.Operand.tmp 45), type := 0, pos := "frame.go:73", after := #[{ on := 1, ground := Go.Ground.data }, { on := 2, ground := Go.Ground.data }], guard := none }) (v := ?_) rfl (by kernel_rfl) (fun _ _ _ h => h) (Or.inl ⟨by rfl, fun W hW => ?_⟩) hS ?_
      rotate_left
      · skip; go_simp; (try go_bits); (try rw [if_pos (by omega)]); (try with_reducible rfl)
      (try simp only [Act.put, List.setIfInBounds_toArray, List.set_cons_succ, List.set_cons_zero])
      refine wpE_last (oi := { dst := some 54, op := Go.Op.call { callee := Go.Callee.value (Go.Operand.func 82), args := #[Go.Operand.tmp 46, Go.Operand.tmp 53], argTypes := #[167, 30] }, type := 0, pos := "frame.go:73", after := #[{ on := 3, ground := Go.Ground.data }, { on := 10, ground := Go.Ground.data }, { on := 1, ground := Go.Ground.chain }], guard := none }) rfl (by kernel_rfl) (by kernel_rfl) (by rfl) (fun K hK => ?_)
      go_simp; refine (au_Store _ _ (allB hn) _ ((H2.out.2.1.cellB k).trans (by rw [hu]; rfl)) ((H2.out.2.1.bb rfl).1.frozen k)).mono ?_; rintro e w3 ⟨rfl, rfl⟩
      have hS3 := H2.out.2.1.stepB k (.int .u64 (allB hn))
      have H3 := Lib.hid (And.intro (H2.out.1.trans hS3) (And.intro (H2.out.2.1.setB_ k (allB hn)) (H2.out.2.2.step hS3 (fun h => hcc h.symm))))
      clear hS3
      refine hK _ _ ?_; clear hK K
      go_wp2
      go_ret
      rw [HRP.out]
      exact ⟨rfl, own2, H3.out.1.mono (fun x h => Or.inl h), ⟨_, _, _, H3.out.2.1⟩, H3.out.2.2⟩
    · have hR' : relOk res s.ow (k : Int) = false := by rw [hR]; simp; omega
      have HRP := Lib.hid (show relP res hn s k = s from by simp [relP, hR'])
      rw [hR', if_neg (by decide)]
      clear hR hR'
      have hcs : (k : Int) < res ∨ (res ≤ k ∧ v = 0) ∨ (res ≤ k ∧ v = -2) := by omega
      rcases hcs with hc1 | ⟨hc1, rfl⟩ | ⟨hc1, rfl⟩
      all_goals
        go_enter Try.func21, Try.ntmps21
        go_wp2_with fail
        refine HT.out.mono ?_; rintro e w' ⟨rfl, rfl⟩; rw [hf]
        go_wp2
        go_ret
        rw [HRP.out]
        exact ⟨rfl, own, Step.refl _ _ _, ⟨_, _, _, H0.out.1⟩, H0.out.2⟩
  · have hf : thereP n f = false := by simpa using hf
    have hR' : relOk res s.ow f = false := by simp [relOk, hlo, hf]
    have HRP := Lib.hid (show relP res hn s f = s from by simp [relP, hR'])
    rw [hR', if_neg (by decide)]
    go_enter Try.func21, Try.ntmps21
    go_wp2_with fail
    refine HT.out.mono ?_; rintro e w' ⟨rfl, rfl⟩; rw [hf]
    go_wp2
    go_ret
    rw [HRP.out]
    exact ⟨rfl, own, Step.refl _ _ _, ⟨_, _, _, H0.out.1⟩, H0.out.2⟩
end
end Go.Proofs.Ytpodeclkgcgpgaa
