import Derived.Test.YtpknabblllighaaVl1
import Derived.BigQuiet
/- VirtdevLearns: the walk. -/
namespace Go.Proofs.Ytpknabblllighaa
set_option linter.unusedVariables false
set_option linter.unusedSimpArgs false
open Go.RowKit Go.Maps
set_option maxRecDepth 100000
def z20 : Array Value := Array.replicate 20 (.int .u8 0)
set_option maxHeartbeats 4000000 in
theorem learns_calls (ports a b m n : Int) (hp : -9223372036854775808 ≤ ports ∧ ports ≤ 9223372036854775807) (ha : -9223372036854775808 ≤ a ∧ a ≤ 9223372036854775807) (hb : -9223372036854775808 ≤ b ∧ b ≤ 9223372036854775807)
    (hm : 0 ≤ m ∧ m ≤ 255) (hn : 0 ≤ n ∧ n ≤ 255) (w : World) :
    Calls Try.prog 4 #[.int .i64 ports, .int .i64 a, .int .i64 b, .int .u8 m, .int .u8 n] w fun e w' => e = .returned (.bool true) ∧ Upd (fun _ => False) w w' := by
  obtain ⟨k0, hk0, hk8⟩ : ∃ k : Nat, ports % 8 = (k : Int) ∧ k < 8 := ⟨(ports % 8).toNat, by omega, by omega⟩
  obtain ⟨k, hk⟩ : ∃ k, k = k0 + 1 := ⟨_, rfl⟩
  have hkw : wrap64 (1 + (k0 : Int)) = (k : Int) := by rw [IntWalk.wrap64_in _ (by omega)]; omega
  obtain ⟨x, hx, hxk⟩ : ∃ x : Nat, a % (k : Int) = (x : Int) ∧ x < k := ⟨(a % (k : Int)).toNat, by have := Int.emod_nonneg a (b := (k : Int)) (by omega); omega, by have := Int.emod_nonneg a (b := (k : Int)) (by omega); have := Int.emod_lt_of_pos a (b := (k : Int)) (by omega); omega⟩
  obtain ⟨y, hy, hyk⟩ : ∃ y : Nat, b % (k : Int) = (y : Int) ∧ y < k := ⟨(b % (k : Int)).toNat, by have := Int.emod_nonneg b (b := (k : Int)) (by omega); omega, by have := Int.emod_nonneg b (b := (k : Int)) (by omega); have := Int.emod_lt_of_pos b (b := (k : Int)) (by omega); omega⟩
  have hk9 : 1 ≤ k ∧ k ≤ 8 := by omega
  have p1 := place_calls ports 8 w hp.1 hp.2 (by decide) (by decide)
  have p2 := fun w => place_calls a (k : Int) w ha.1 ha.2 (by omega) (by omega)
  have p3 := fun w => place_calls b (k : Int) w hb.1 hb.2 (by omega) (by omega)
  simp only [hk0, hx, hy] at p1 p2 p3
  have HP1 := Lib.hid p1
  have HP2 := Lib.hid p2
  have HP3 := Lib.hid p3
  have HS := Lib.hid (NewSwitch_yes (fun _ => 0) 1 k hk9 w)
  have HK := Lib.hid (And.intro hk9 (And.intro hxk hyk))
  have HM := Lib.hid (And.intro hm hn)
  clear p1 p2 p3 hk0 hx hy hk9 hk8 hp ha hb hk hxk hyk hm hn
  go_enter Try.func4, Try.ntmps4
  go_wp2_with fail
  ((with_reducible refine HP1.out.mono ?_); rintro e wz ⟨rfl, rfl⟩)
  clear HP1
  go_wp2_with fail
  rw [hkw]
  ((with_reducible refine HS.out.mono ?_); rintro e w2 ⟨s, rfl, own2, hS2, hA2⟩)
  have HU2 := Lib.hid (And.intro hS2 hA2)
  clear HS hS2 hA2 hkw
  go_wp2_with fail
  ((with_reducible refine (HP2.out _).mono ?_); rintro e wz ⟨rfl, rfl⟩)
  clear HP2
  go_wp2_with fail
  ((with_reducible refine (HP3.out _).mono ?_); rintro e wz ⟨rfl, rfl⟩)
  clear HP3
  go_upto_region 9 with (first | ((with_reducible show wpList _ _ _ ((⟨some 40, _, _, _, _, _⟩ : Oper) :: _) _ _); refine wpList_make rfl _ _ _ rfl _ _ rfl rfl (u8_makeV 20 (by decide) _) ?_) | ((with_reducible show wpList _ _ _ ((⟨some 41, _, _, _, _, _⟩ : Oper) :: _) _ _); refine wpList_make rfl _ _ _ rfl _ _ rfl rfl (u8_makeV 20 (by decide) _) ?_))
  have hst : Step (fun _ => False) own2 w2 (ext own2 w2 5) ((w2.alloc (.cells (Array.replicate 20 (.int .u8 0)) 5)).alloc (.cells (Array.replicate 20 (.int .u8 0)) 5)) := ⟨((Upd.refl _ _).alloc _).alloc _, fun b hb => ext_old _ _ _ hb⟩
  have hA3 := HU2.out.2.step hst (fun h => h)
  have hU3 : Upd (fun _ => False) w ((w2.alloc (.cells (Array.replicate 20 (.int .u8 0)) 5)).alloc (.cells (Array.replicate 20 (.int .u8 0)) 5)) := ((HU2.out.1.upd.mono (fun _ _ h => h.elim)).alloc _).alloc _
  have hO : ∀ i, i < w.heap.size → ext own2 w2 5 i = 0 := fun i hi => (ext_old own2 w2 5 (Nat.lt_of_lt_of_le hi HU2.out.1.upd.size)).trans (HU2.out.1.old i hi)
  have hb1 : Blk ((w2.alloc (.cells (Array.replicate 20 (.int .u8 0)) 5)).alloc (.cells (Array.replicate 20 (.int .u8 0)) 5)) w2.heap.size 5 (Array.replicate 20 (.int .u8 0)) := (Blk.new w2 _ _).alloc _
  have hb2 : Blk ((w2.alloc (.cells (Array.replicate 20 (.int .u8 0)) 5)).alloc (.cells (Array.replicate 20 (.int .u8 0)) 5)) (w2.heap.size + 1) 5 (Array.replicate 20 (.int .u8 0)) := by
    have := Blk.new (w2.alloc (.cells (Array.replicate 20 (.int .u8 0)) 5)) 5 (Array.replicate 20 (.int .u8 0))
    rwa [World.size_alloc] at this
  have ho1 : ext own2 w2 5 w2.heap.size = 5 := ext_new _ _ _ (Nat.le_refl _)
  have ho2 : ext own2 w2 5 (w2.heap.size + 1) = 5 := ext_new _ _ _ (Nat.le_succ _)
  have hlw : w.heap.size ≤ w2.heap.size := HU2.out.1.upd.size
  clear hst HU2
  generalize ((w2.alloc (.cells (Array.replicate 20 (.int .u8 0)) 5)).alloc (.cells (Array.replicate 20 (.int .u8 0)) 5)) = w3 at *
  generalize ext own2 w2 5 = own3 at *
  generalize hq1 : w2.heap.size = b1 at *
  have c16 := hb1.cell 6
  have c17 := hb1.cell 7
  have c26 := hb2.cell 6
  have c27 := hb2.cell 7
  rw [show (Array.replicate 20 (Value.int .u8 0))[6]? = some (.int .u8 0) from rfl] at c16 c26
  rw [show (Array.replicate 20 (Value.int .u8 0))[7]? = some (.int .u8 0) from rfl] at c17 c27
  have f16 := hb1.frozen 6
  have f17 := hb1.frozen 7
  have f26 := hb2.frozen 6
  have f27 := hb2.frozen 7
  have H3 := Lib.hid (And.intro hA3 (And.intro hU3 (And.intro hO (And.intro hb1 (And.intro hb2 (And.intro ho1 (And.intro ho2 hlw)))))))
  clear hA3 hU3 hO hb1 hb2 ho1 ho2 hlw hq1
  go_upto_region 11 with fail
  have hst4 : Step (· = 5) own3 w3 own3 ((((w3.setCell ⟨b1, 6, none⟩ (.int .u8 2)).setCell ⟨b1, 7, none⟩ (.int .u8 m)).setCell ⟨b1 + 1, 6, none⟩ (.int .u8 4)).setCell ⟨b1 + 1, 7, none⟩ (.int .u8 n)) :=
    ⟨((((Upd.refl (fun b => own3 b = 5) w3).setCell (p := ⟨b1, 6, none⟩) (.inl H3.out.2.2.2.2.2.1) _).setCell (p := ⟨b1, 7, none⟩) (.inl H3.out.2.2.2.2.2.1) _).setCell (p := ⟨b1 + 1, 6, none⟩) (.inl H3.out.2.2.2.2.2.2.1) _).setCell (p := ⟨b1 + 1, 7, none⟩) (.inl H3.out.2.2.2.2.2.2.1) _, fun _ _ => rfl⟩
  have hb1 : Blk ((((w3.setCell ⟨b1, 6, none⟩ (.int .u8 2)).setCell ⟨b1, 7, none⟩ (.int .u8 m)).setCell ⟨b1 + 1, 6, none⟩ (.int .u8 4)).setCell ⟨b1 + 1, 7, none⟩ (.int .u8 n)) b1 5 (u8L (halfL 2 m)).toArray :=
    ((((H3.out.2.2.2.1.set_ 6 (.int .u8 2)).set_ 7 (.int .u8 m)).far (p := ⟨b1 + 1, 6, none⟩) (by simp) _).far (p := ⟨b1 + 1, 7, none⟩) (by simp) _).to (half_set 2 m)
  have hb2 : Blk ((((w3.setCell ⟨b1, 6, none⟩ (.int .u8 2)).setCell ⟨b1, 7, none⟩ (.int .u8 m)).setCell ⟨b1 + 1, 6, none⟩ (.int .u8 4)).setCell ⟨b1 + 1, 7, none⟩ (.int .u8 n)) (b1 + 1) 5 (u8L (halfL 4 n)).toArray :=
    ((((H3.out.2.2.2.2.1.far (p := ⟨b1, 6, none⟩) (by simp) _).far (p := ⟨b1, 7, none⟩) (by simp) _).set_ 6 (.int .u8 4)).set_ 7 (.int .u8 n)).to (half_set 4 n)
  have hA4 := H3.out.1.step hst4 (by decide)
  have hU4 := H3.out.2.1.trans' hst4.upd (fun i hi e => by have := H3.out.2.2.1 i hi; rw [this] at e; cases e)
  have H4 := Lib.hid (And.intro hA4 (And.intro hU4 (And.intro hb1 (And.intro hb2 H3.out.2.2.2.2.2))))
  have HO := Lib.hid H3.out.2.2.1
  clear hst4 hA4 hU4 hb1 hb2 c16 c17 c26 c27 f16 f17 f26 f27 H3
  generalize ((((w3.setCell ⟨b1, 6, none⟩ (.int .u8 2)).setCell ⟨b1, 7, none⟩ (.int .u8 m)).setCell ⟨b1 + 1, 6, none⟩ (.int .u8 4)).setCell ⟨b1 + 1, 7, none⟩ (.int .u8 n)) = w4 at *
  refine wpE_region (S := fun (W' : World) => W' = w4.drew) (s := 4) (by kernel_rfl) ?_
  have hS : (fun (W' : World) => W' = w4.drew) _ := rfl
  refine wpE_take (i := 0) (oi := { dst := some 52, op := Go.Op.move (Go.Operand.tmp 17), type := 34, pos := "law.go:287", after := #[], guard := none }) (v := ?_) rfl (by kernel_rfl) (fun _ _ _ h => h) (Or.inl ⟨by rfl, fun W hW => ?_⟩) hS ?_
  rotate_left
  · (obtain rfl : W = w4.drew := hW); go_simp; (try go_bits); (try rw [if_pos (by omega)]); (try with_reducible rfl)
  (try simp only [Act.put, List.setIfInBounds_toArray, List.set_cons_succ, List.set_cons_zero])
  refine wpE_take (i := 1) (oi := { dst := some 53, op := Go.Op.slice 34 (Go.Operand.tmp 52) none (some (Go.Operand.const (Go.Value.int Go.IntKind.i64 6))) none, type := 34, pos := "law.go:287", after := #[{ on := 0, ground := Go.Ground.data }], guard := none }) (v := ?_) rfl (by kernel_rfl) (fun _ _ _ h => h) (Or.inl ⟨by rfl, fun W hW => ?_⟩) hS ?_
  rotate_left
  · (obtain rfl : W = w4.drew := hW); go_simp; (try go_bits); (try rw [if_pos (by omega)]); (try with_reducible rfl)
  (try simp only [Act.put, List.setIfInBounds_toArray, List.set_cons_succ, List.set_cons_zero])
  refine wpE_take (i := 2) (oi := { dst := some 54, op := Go.Op.move (Go.Operand.tmp 16), type := 34, pos := "law.go:287", after := #[], guard := none }) (v := ?_) rfl (by kernel_rfl) (fun _ _ _ h => h) (Or.inl ⟨by rfl, fun W hW => ?_⟩) hS ?_
  rotate_left
  · (obtain rfl : W = w4.drew := hW); go_simp; (try go_bits); (try rw [if_pos (by omega)]); (try with_reducible rfl)
  (try simp only [Act.put, List.setIfInBounds_toArray, List.set_cons_succ, List.set_cons_zero])
  refine wpE_take (i := 3) (oi := { dst := some 55, op := Go.Op.slice 34 (Go.Operand.tmp 54) (some (Go.Operand.const (Go.Value.int Go.IntKind.i64 6))) (some (Go.Operand.const (Go.Value.int Go.IntKind.i64 12))) none, type := 34, pos := "law.go:287", after := #[{ on := 2, ground := Go.Ground.data }], guard := none }) (v := ?_) rfl (by kernel_rfl) (fun _ _ _ h => h) (Or.inl ⟨by rfl, fun W hW => ?_⟩) hS ?_
  rotate_left
  · (obtain rfl : W = w4.drew := hW); go_simp; (try go_bits); (try rw [if_pos (by omega)]); (try with_reducible rfl)
  (try simp only [Act.put, List.setIfInBounds_toArray, List.set_cons_succ, List.set_cons_zero])
  refine wpE_last (oi := { dst := some 56, op := Go.Op.call { callee := Go.Callee.builtin Go.Builtin.copy, args := #[Go.Operand.tmp 53, Go.Operand.tmp 55], argTypes := #[34, 34] }, type := 3, pos := "law.go:287", after := #[{ on := 1, ground := Go.Ground.data }, { on := 3, ground := Go.Ground.data }], guard := none }) rfl (by kernel_rfl) (by kernel_rfl) (by rfl) (fun K hK => ?_)
  refine wp_copyB (.tmp 53) (.tmp 55) _ _ rfl 5 Try.underlying34 (by kernel_rfl) (b1 + 1) 6 20 b1 6 6 14 rfl rfl _ _ (show Blk w4.drew _ _ _ from H4.out.2.2.2.1) (u8L (frA m)) rfl (show w4.drew.rangeAt _ _ _ from (mid_half (H4.out.2.2.1))) (by show 6 ≤ 20; decide) (u8L_one _) (fun w5 hb5 hU5 => ?_); refine hK _ _ ?_; clear hK K
  clear hS
  have hst5 : Step (· = 5) own3 w4 own3 w5 := ⟨((Upd.refl _ _).drew.trans' hU5 (fun i hi e => e)).mono (fun i hi (e : i = b1 + 1) => by rw [e]; exact H4.out.2.2.2.2.2.1), fun _ _ => rfl⟩
  have hb2 := hb5.to (half_two m n)
  have hb1 := (H4.out.2.2.1).upd ((Upd.refl (· = b1 + 1) w4).drew.trans' hU5 (fun i hi e => e)) (by omega)
  have hA5 := H4.out.1.step hst5 (by decide)
  have hU6 := H4.out.2.1.trans' hst5.upd (fun i hi e => by have := HO.out i hi; rw [this] at e; cases e)
  have H5 := Lib.hid (And.intro hA5 (And.intro hU6 (And.intro hb1 (And.intro hb2 H4.out.2.2.2.2))))
  clear hst5 hb5 hU5 hb1 hb2 hA5 hU6 H4
  go_wp2_with fail
  refine wpE_region (S := fun (W' : World) => W' = w5.drew) (s := 4) (by kernel_rfl) ?_
  have hS : (fun (W' : World) => W' = w5.drew) _ := rfl
  refine wpE_take (i := 0) (oi := { dst := some 57, op := Go.Op.move (Go.Operand.tmp 16), type := 34, pos := "law.go:288", after := #[], guard := none }) (v := ?_) rfl (by kernel_rfl) (fun _ _ _ h => h) (Or.inl ⟨by rfl, fun W hW => ?_⟩) hS ?_
  rotate_left
  · (obtain rfl : W = w5.drew := hW); go_simp; (try go_bits); (try rw [if_pos (by omega)]); (try with_reducible rfl)
  (try simp only [Act.put, List.setIfInBounds_toArray, List.set_cons_succ, List.set_cons_zero])
  refine wpE_take (i := 1) (oi := { dst := some 58, op := Go.Op.slice 34 (Go.Operand.tmp 57) none (some (Go.Operand.const (Go.Value.int Go.IntKind.i64 6))) none, type := 34, pos := "law.go:288", after := #[{ on := 0, ground := Go.Ground.data }], guard := none }) (v := ?_) rfl (by kernel_rfl) (fun _ _ _ h => h) (Or.inl ⟨by rfl, fun W hW => ?_⟩) hS ?_
  rotate_left
  · (obtain rfl : W = w5.drew := hW); go_simp; (try go_bits); (try rw [if_pos (by omega)]); (try with_reducible rfl)
  (try simp only [Act.put, List.setIfInBounds_toArray, List.set_cons_succ, List.set_cons_zero])
  refine wpE_take (i := 2) (oi := { dst := some 59, op := Go.Op.move (Go.Operand.tmp 17), type := 34, pos := "law.go:288", after := #[], guard := none }) (v := ?_) rfl (by kernel_rfl) (fun _ _ _ h => h) (Or.inl ⟨by rfl, fun W hW => ?_⟩) hS ?_
  rotate_left
  · (obtain rfl : W = w5.drew := hW); go_simp; (try go_bits); (try rw [if_pos (by omega)]); (try with_reducible rfl)
  (try simp only [Act.put, List.setIfInBounds_toArray, List.set_cons_succ, List.set_cons_zero])
  refine wpE_take (i := 3) (oi := { dst := some 60, op := Go.Op.slice 34 (Go.Operand.tmp 59) (some (Go.Operand.const (Go.Value.int Go.IntKind.i64 6))) (some (Go.Operand.const (Go.Value.int Go.IntKind.i64 12))) none, type := 34, pos := "law.go:288", after := #[{ on := 2, ground := Go.Ground.data }], guard := none }) (v := ?_) rfl (by kernel_rfl) (fun _ _ _ h => h) (Or.inl ⟨by rfl, fun W hW => ?_⟩) hS ?_
  rotate_left
  · (obtain rfl : W = w5.drew := hW); go_simp; (try go_bits); (try rw [if_pos (by omega)]); (try with_reducible rfl)
  (try simp only [Act.put, List.setIfInBounds_toArray, List.set_cons_succ, List.set_cons_zero])
  refine wpE_last (oi := { dst := some 61, op := Go.Op.call { callee := Go.Callee.builtin Go.Builtin.copy, args := #[Go.Operand.tmp 58, Go.Operand.tmp 60], argTypes := #[34, 34] }, type := 3, pos := "law.go:288", after := #[{ on := 1, ground := Go.Ground.data }, { on := 3, ground := Go.Ground.data }], guard := none }) rfl (by kernel_rfl) (by kernel_rfl) (by rfl) (fun K hK => ?_)
  refine wp_copyB (.tmp 58) (.tmp 60) _ _ rfl 5 Try.underlying34 (by kernel_rfl) b1 6 20 (b1 + 1) 6 6 14 rfl rfl _ _ (show Blk w5.drew _ _ _ from H5.out.2.2.1) (u8L (frB n)) rfl (show w5.drew.rangeAt _ _ _ from (mid_two (H5.out.2.2.2.1))) (by show 6 ≤ 20; decide) (u8L_one _) (fun w6 hb6 hU6 => ?_); refine hK _ _ ?_; clear hK K
  clear hS
  have hst5 : Step (· = 5) own3 w5 own3 w6 := ⟨((Upd.refl _ _).drew.trans' hU6 (fun i hi e => e)).mono (fun i hi (e : i = b1) => by rw [e]; exact H5.out.2.2.2.2.1), fun _ _ => rfl⟩
  have hb1 := hb6.to (half_one m n)
  have hb2 := (H5.out.2.2.2.1).upd ((Upd.refl (· = b1) w5).drew.trans' hU6 (fun i hi e => e)) (by omega)
  have hA5 := H5.out.1.step hst5 (by decide)
  have hU7 := H5.out.2.1.trans' hst5.upd (fun i hi e => by have := HO.out i hi; rw [this] at e; cases e)
  have hSend := sw_Send hA5 HK.out.1.2 x HK.out.2.1 (some ⟨b1, 0, none⟩) 20 20 (oneL m n) (reads_blk hb1 (by simp [u8L, oneL])) (by have := HM.out; intro q hq; simp [oneL] at hq; omega) (by decide) (by decide) (by decide) (fun k q h => by cases h) (by decide) 2 (frB n) (frA m) rfl rfl rfl 2 (by decide)
  rw [learnA, sA_B] at hSend
  have HSend := Lib.hid hSend
  have H6 := Lib.hid (And.intro hU7 (And.intro (And.intro hb1 H5.out.2.2.2.2.1) (And.intro (And.intro hb2 H5.out.2.2.2.2.2.1) H5.out.2.2.2.2.2.2)))
  clear hst5 hb6 hU6 hb1 hb2 hA5 hU7 H5 hSend
  go_wp2_with fail
  ((with_reducible refine HSend.out.mono ?_); rintro e w7 ⟨v, own7, rfl, hS7, hA7, hR7⟩)
  have hR := Lib.hid hR7
  obtain ⟨A7, cap7, rfl, _, hread⟩ := hR7.form
  obtain ⟨L, hL⟩ : ∃ L, outS k x none = L := ⟨_, rfl⟩
  obtain ⟨q, hq⟩ : ∃ q, (outS k x none).length = q := ⟨_, rfl⟩
  have hk1 : q = k - 1 := hq ▸ out_none_len ⟨k, by have := HK.out; omega⟩ ⟨x, by have := HK.out; omega⟩ (by have := HK.out; exact HK.out.2.1)
  have hne : ((q : Int) != wrap64 ((k : Int) - 1)) = false := by rw [IntWalk.wrap64_in _ (by have := HK.out; omega), hk1]; have := HK.out; simp; omega
  rw [hq] at hread
  have HC := Lib.hid (And.intro hread hq)
  have HQ := Lib.hid (show q ≤ 7 by have := HK.out; omega)
  have HS7 := Lib.hid (And.intro hS7 hA7)
  rw [hq]
  clear hread hS7 hA7 hR7 HSend hL hk1
  go_wp2_with fail
  go_loopw [19] (fun i wr => ∃ (j : Nat), j ≤ q ∧ i = .int .i64 (j : Int) ∧ ∃ d, wr = w7.drewN d) (fun i _ => q - (intOf i).toNat)
  case atStart => exact ⟨0, by omega, rfl, 0, rfl⟩
  case round =>
    obtain ⟨j, hj, rfl, dn, rfl⟩ := hrel
    by_cases hlt : j < q
    · have hlt' := hlt
      obtain ⟨g, o, rfl, _, hgl, _, hcs⟩ := HC.out.1 (by omega)
      obtain ⟨pj, hpj⟩ : ∃ p, (outS k x none)[j]? = some p := ⟨_, List.getElem?_eq_getElem (by rw [HC.out.2]; exact hlt)⟩
      have hcj : w7.cell? ⟨g, o + j, none⟩ = some (.int .i64 (pj : Int)) := hcs j _ (by rw [psC, List.getElem?_map, hpj]; rfl)
      obtain ⟨g1, g2⟩ := out_at hpj
      have t1 : ((pj : Int) == (x : Int)) = false := by simp; omega
      have t2 : decide ((pj : Int) < 0) = false := decide_eq_false (by omega)
      have t3 : decide (k ≤ pj) = false := decide_eq_false (by omega)
      have hqi : (j : Int) < (q : Int) := by omega
      have HJ := Lib.hid (IntWalk.wrap64_in ((j : Int) + 1) (by have := HQ.out; omega))
      rcases Nat.eq_zero_or_pos j with hj0 | hj0
      · have t4 : decide (0 < j) = false := decide_eq_false (by omega)
        clear hcs hpj g1 g2 hj0 HC hR HS7 H6 HO HK HM hj
        go_wp2
        go_quiet (fail)
        go_wp2
        exact ⟨⟨j + 1, by omega, by rw [HJ.out]; go_num, _, rfl⟩, meas_lt q j hlt' (Nat.le_succ_of_le HQ.out)⟩
      · obtain ⟨jp, hjp⟩ : ∃ jp, j = jp + 1 := ⟨j - 1, by omega⟩
        obtain ⟨pi, hpi⟩ : ∃ p, (outS k x none)[jp]? = some p := ⟨_, List.getElem?_eq_getElem (by rw [HC.out.2]; omega)⟩
        have hci : w7.cell? ⟨g, o + jp, none⟩ = some (.int .i64 (pi : Int)) := hcs jp _ (by rw [psC, List.getElem?_map, hpi]; rfl)
        have g3 := out_lt hpi (by rw [← hjp]; exact hpj)
        have t4 : decide (0 < j) = true := decide_eq_true (by omega)
        have hw : wrap64 ((j : Int) - 1) = (jp : Int) := by have := HQ.out; rw [IntWalk.wrap64_in _ (by omega)]; omega
        have t5 : decide (pj ≤ pi) = false := decide_eq_false (by omega)
        have hjq : (jp : Int) < (q : Int) := by omega
        clear hcs hpj g1 g2 g3 hj0 HC hR HS7 H6 HO HK HM hj hjp hpi
        go_wp2
        go_quiet (fail)
        go_wp2
        exact ⟨⟨j + 1, by omega, by rw [HJ.out]; go_num, _, rfl⟩, meas_lt q j hlt' (Nat.le_succ_of_le HQ.out)⟩
    · obtain rfl : j = q := by omega
      have hS8 : Step (· = 1) own3 w6 own7 (w7.drewN dn) := HS7.out.1.drewN dn
      have hA8 : SwAt own7 1 (w7.drewN dn) s k (sA m x) := HS7.out.2.step ((Step.refl (fun _ => False) own7 w7).drewN dn) (fun h => h)
      obtain ⟨hb1, ho1⟩ := hS8.blk H6.out.2.1.1 H6.out.2.1.2 (by decide)
      obtain ⟨hb2, ho2⟩ := hS8.blk H6.out.2.2.1.1 H6.out.2.2.1.2 (by decide)
      have hU8 := H6.out.1.trans' hS8.upd (fun i hi e => by have := HO.out i hi; rw [this] at e; cases e)
      have hO8 : ∀ i, i < w.heap.size → own7 i = 0 := fun i hi => (hS8.old i (Nat.lt_of_lt_of_le hi H6.out.1.size)).trans (HO.out i hi)
      have hqi : ¬ (j : Int) < (j : Int) := by omega
      have H8 := Lib.hid (And.intro hU8 (And.intro hO8 (And.intro hA8 (And.intro (And.intro hb1 ho1) (And.intro hb2 ho2)))))
      clear hS8 hA8 hb1 ho1 hb2 ho2 hU8 hO8 H6 HO HS7 HC hR HQ hne
      generalize w7.drewN dn = w8 at *
      have hSend := sw_Send H8.out.2.2.1 HK.out.1.2 y HK.out.2.2 (some ⟨b1 + 1, 0, none⟩) 20 20 (twoL m n) (reads_blk H8.out.2.2.2.2.1 (by simp [u8L, twoL])) (by have := HM.out; intro q hq; simp [twoL] at hq; omega) (by decide) (by decide) (by decide) (sA_bd m x (by have := HK.out; omega)) (by show 1 ≤ 1000; decide) 4 (frA m) (frB n) rfl rfl rfl 2 (by decide)
      rw [learnB, sB_A] at hSend
      have HSend := Lib.hid hSend
      clear hSend
      go_wp2_with fail
      ((with_reducible refine HSend.out.mono ?_); rintro e w9 ⟨v9, own9, rfl, hS9, hA9, hR9⟩)
      have ho := out_some ⟨k, by have := HK.out; omega⟩ ⟨x, by have := HK.out; omega⟩ ⟨y, by have := HK.out; omega⟩ HK.out.2.1
      simp only [Fin.mk.injEq] at ho
      rw [ho] at hR9
      have hU9 := H8.out.1.trans' hS9.upd (fun i hi e => by have := H8.out.2.1 i hi; rw [this] at e; cases e)
      by_cases hxy : x = y
      · rw [if_pos hxy] at hR9
        obtain ⟨A9, cap9, rfl, _⟩ := hR9.form
        have HU := Lib.hid hU9
        clear ho hU9 hS9 hA9 hR9 H8 HSend
        subst hxy
        go_wp2_with (go_at_call 7; (with_reducible refine (awake14 _).mono ?_); rintro e w10 ⟨rfl, hU10⟩)
        go_ret
        exact ⟨rfl, HU.out.trans hU10⟩
      · rw [if_neg hxy] at hR9
        obtain ⟨hb1, ho1⟩ := hS9.blk H8.out.2.2.2.1.1 H8.out.2.2.2.1.2 (by decide)
        have hO9 : ∀ i, i < w.heap.size → own9 i = 0 := fun i hi => (hS9.old i (Nat.lt_of_lt_of_le hi H8.out.1.size)).trans (H8.out.2.1 i hi)
        have hSend := sw_Send hA9 HK.out.1.2 x HK.out.2.1 (some ⟨b1, 0, none⟩) 20 20 (oneL m n) (reads_blk hb1 (by simp [u8L, oneL])) (by have := HM.out; intro q hq; simp [oneL] at hq; omega) (by decide) (by decide) (by decide) (sB_bd m n x y (by have := HK.out; omega) (by have := HK.out; omega)) (by show 2 ≤ 1000; decide) 2 (frB n) (frA m) rfl rfl rfl 2 (by decide)
        rw [learnA', sB_B] at hSend
        have ho3 := out_some ⟨k, by have := HK.out; omega⟩ ⟨y, by have := HK.out; omega⟩ ⟨x, by have := HK.out; omega⟩ HK.out.2.2
        simp only [Fin.mk.injEq] at ho3
        rw [ho3, if_neg (fun h => hxy h.symm)] at hSend
        have HSend3 := Lib.hid hSend
        obtain ⟨A9, cap9, rfl, _, hc9⟩ := hR9.form
        obtain ⟨g, o, rfl, _, _, _, hcs⟩ := hc9 (Nat.lt_succ_self 0)
        have hc0 : w9.cell? ⟨g, o, none⟩ = some (.int .i64 (x : Int)) := hcs 0 _ rfl
        have hxy' : ((x : Int) == (y : Int)) = false := by simp; omega
        have H9 := Lib.hid (And.intro hU9 hO9)
        clear ho ho3 hU9 hS9 hA9 hR9 H8 HSend hSend hb1 ho1 hO9 hcs hc9 hxy
        go_wp2_with fail
        ((with_reducible refine HSend3.out.mono ?_); rintro e w10 ⟨v10, own10, rfl, hS10, hA10, hR10⟩)
        have hU10 := H9.out.1.trans' hS10.upd (fun i hi e => by have := H9.out.2 i hi; rw [this] at e; cases e)
        obtain ⟨A10, cap10, rfl, _, hc10⟩ := hR10.form
        obtain ⟨g', o', rfl, _, _, _, hcs'⟩ := hc10 (Nat.lt_succ_self 0)
        have hd0 : w10.cell? ⟨g', o', none⟩ = some (.int .i64 (y : Int)) := hcs' 0 _ rfl
        have HL := Lib.hid (sw_Learned hA10)
        have HU := Lib.hid hU10
        clear hU10 hS10 hA10 hR10 H9 HSend3 hcs' hc10
        go_wp2_with (first | (go_at_call 7; (with_reducible refine (awake14 _).mono ?_); rintro e w11 ⟨rfl, hU11⟩) | (go_at_call 12; (with_reducible refine HL.out.mono ?_); rintro e wz ⟨rfl, rfl⟩))
        go_ret
        exact ⟨rfl, HU.out.trans hU11⟩
end Go.Proofs.Ytpknabblllighaa
