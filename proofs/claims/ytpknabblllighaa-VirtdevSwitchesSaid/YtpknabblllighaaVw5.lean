import Derived.Test.YtpknabblllighaaVw4
/- VirtdevSwitches: the walk. -/
namespace Go.Proofs.Ytpknabblllighaa
set_option linter.unusedVariables false
set_option linter.unusedSimpArgs false
open Go.RowKit Go.Maps
set_option maxRecDepth 100000
theorem meas_ltW (n k : Nat) (h : k < n) (hn : n ≤ 140737488351232) : n - (intOf (.int .i64 (wrap64 ((k : Int) + 1)))).toNat < n - (intOf (.int .i64 (k : Int))).toNat := by
  rw [IntWalk.wrap64_in ((k : Int) + 1) (by omega)]
  have e1 : (intOf (.int .i64 ((k : Int) + 1))).toNat = k + 1 := by show ((k : Int) + 1).toNat = k + 1; omega
  have e2 : (intOf (.int .i64 (k : Int))).toNat = k := by show ((k : Int)).toNat = k; omega
  rw [e1, e2]
  omega
/-- both switches, and what was there -/
structure SB (W : World) (k s q : Nat) (sw : Sw) (l : List Mac) (own : Nat → Nat) (w : World) : Prop where
  upd : Upd (fun _ => False) W w
  old : ∀ b, b < W.heap.size → own b = 0
  a : SwAt own 1 w s k sw
  r : WAt own 2 3 w q k l
section
variable {W : World} {k s q : Nat} {sw sw' : Sw} {l l' : List Mac} {own own' : Nat → Nat} {w w' : World}
theorem SB.none_ (h : SB W k s q sw l own w) (hS : Step (fun _ => False) own w own' w') : SB W k s q sw l own' w' :=
  ⟨h.upd.trans (hS.upd.mono (fun _ _ h => h.elim)), fun b hb => (hS.old b (Nat.lt_of_lt_of_le hb h.upd.size)).trans (h.old b hb), h.a.step hS (fun h => h), h.r.step hS (fun h => h) (fun h => h)⟩
theorem SB.goA (h : SB W k s q sw l own w) (hS : Step (· = 1) own w own' w') (hA : SwAt own' 1 w' s k sw') : SB W k s q sw' l own' w' :=
  ⟨h.upd.trans' hS.upd (fun i hi e => by rw [h.old i hi] at e; cases e), fun b hb => (hS.old b (Nat.lt_of_lt_of_le hb h.upd.size)).trans (h.old b hb), hA, h.r.step hS (by decide) (by decide)⟩
theorem SB.goR (h : SB W k s q sw l own w) (hS : Step (fun x => x = 2 ∨ x = 3) own w own' w') (hR : WAt own' 2 3 w' q k l') : SB W k s q sw l' own' w' :=
  ⟨h.upd.trans' hS.upd (fun i hi e => by rw [h.old i hi] at e; omega), fun b hb => (hS.old b (Nat.lt_of_lt_of_le hb h.upd.size)).trans (h.old b hb), h.a.step hS (by decide), hR⟩
end
/-- S made more of, from here on -/
theorem wpE_mono {P : Program} {ops : Array Oper} {Q : Exit → Act → World → Prop} {S S' : World → Prop} {s : Nat} (hS : ∀ w, S' w → S w) : ∀ (n : Nat) (done : Array Bool) (a : Act) (w : World), wpE P ops Q S' s n done a w → wpE P ops Q S s n done a w
  | 0, _, _, _, h => h
  | n + 1, _, _, _, h => ⟨h.1, fun i hi => wpOp_mono (fun a' w' h' => ⟨h'.1.imp id (hS w'), wpE_mono hS n _ a' w' h'.2⟩) (h.2 i hi)⟩
/-- the frames of the statement -/
def FrOk (W : World) (n : Nat) (vs : List Value) : Prop := ∀ i, i < n → ∃ A cap bs, vs[i]? = some (.slice A (List.length bs) cap) ∧ bs.length ≤ cap ∧ cap ≤ maxLen ∧ Reads W W.heap.size 1 A bs.length (u8L bs) ∧ (∀ b ∈ bs, 0 ≤ b ∧ b < 256) ∧ bs.length ≤ 140737488351232
set_option maxHeartbeats 8000000 in
theorem switches_calls (ports : Int) (hp : -9223372036854775808 ≤ ports ∧ ports ≤ 9223372036854775807) (AF : Option Addr) (cF : Nat) (zs : List Int) (W : World) (hrF : Reads W W.heap.size 1 AF zs.length (zs.map (.int .i64))) (hzl : zs.length ≤ 9223372036854775807) (hzb : ∀ z ∈ zs, -9223372036854775808 ≤ z ∧ z ≤ 9223372036854775807)
    (AR : Option Addr) (nR cR : Nat) (vs : List Value) (hrR : Reads W W.heap.size 1 AR nR vs) (hnR : nR ≤ 140737488351232) (hvs : FrOk W nR vs) :
    Calls Try.prog 3 #[.int .i64 ports, .slice AF zs.length cF, .slice AR nR cR] W fun e w' => e = .returned (.bool true) ∧ Upd (fun _ => False) W w' := by
  by_cases hk : 1 ≤ ports ∧ ports ≤ 8
  · obtain ⟨k, rfl⟩ := Int.eq_ofNat_of_zero_le (show 0 ≤ ports by omega)
    have hk8 : 1 ≤ k ∧ k ≤ 8 := by omega
    have HN := Lib.hid (NewSwitch_yes (fun _ => 0) 1 k hk8 W)
    have HA := Lib.hid (And.intro hrF (And.intro hzb (And.intro hrR hvs)))
    have HK := Lib.hid (And.intro hk8 (And.intro hzl hnR))
    clear hrF hzb hrR hvs hk hp hk8 hzl hnR
    go_enter Try.func3, Try.ntmps3
    go_wp2_with fail
    ((with_reducible refine HN.out.mono ?_); rintro e w1 ⟨s, rfl, own1, hS1, hA1⟩)
    have HN2 := Lib.hid (ref_NewSwitch_yes own1 2 3 k HK.out.1 w1)
    have H1 := Lib.hid (And.intro hS1 hA1)
    clear HN hS1 hA1
    go_wp2_with fail
    ((with_reducible refine HN2.out.mono ?_); rintro e w2 ⟨q, rfl, own2, hS2, hR2⟩)
    have hB : SB W k s q sw0 [] own2 w2 := ⟨H1.out.1.upd.trans hS2.upd |>.mono (fun _ _ h => h.elim), fun b hb => (hS2.old b (Nat.lt_of_lt_of_le hb H1.out.1.upd.size)).trans (H1.out.1.old b hb), H1.out.2.step hS2 (fun h => h), hR2⟩
    have HB := Lib.hid hB
    clear hB H1 hS2 hR2 HN2
    go_wp2_with fail
    go_loopw [11] (fun i wr => ∃ (j : Nat), j ≤ nR ∧ j ≤ zs.length ∧ i = .int .i64 (j : Int) ∧ Hid (∃ own sw l, SB W k s q sw l own wr ∧ WS k sw l)) (fun i _ => nR - (intOf i).toNat)
    case atStart => exact ⟨0, by omega, by omega, rfl, _, _, _, HB.out, WS.init k⟩
    case round =>
      obtain ⟨j, hj, hj2, rfl, HLo⟩ := hrel
      clear HB
      obtain ⟨ownC, sw, l, hB, hws⟩ := HLo.out
      by_cases hlt : j < nR
      · have hji : (j : Int) < (nR : Int) := by omega
        by_cases hlt2 : j < zs.length
        · have hji2 : (j : Int) < (zs.length : Int) := by omega
          obtain ⟨z, hz⟩ : ∃ z, zs[j]? = some z := ⟨_, List.getElem?_eq_getElem hlt2⟩
          obtain ⟨hz0, hz1⟩ := HA.out.2.1 z (List.mem_of_getElem? hz)
          obtain ⟨A0, c0, bs, hvj, hc1, hc2, hrd, hb8, hbn⟩ := HA.out.2.2.2 j hlt
          obtain ⟨gF, oF, rfl, hgF, hcF⟩ := HA.out.1.first (by omega) (by decide)
          obtain ⟨gR, oR, rfl, hgR, hcR⟩ := HA.out.2.2.1.first (by omega) (by decide)
          have cF : W.cell? ⟨gF, oF + j, none⟩ = some (.int .i64 z) := hcF j _ (by rw [List.getElem?_map, hz]; rfl)
          have cR : W.cell? ⟨gR, oR + j, none⟩ = some (.slice A0 bs.length c0) := hcR j _ hvj
          have HC := Lib.hid (fun (w' : World) (hU : Upd (fun _ => False) W w') => (show w'.cell? ⟨gF, oF + j, none⟩ = some (.int .i64 z) ∧ w'.cell? ⟨gR, oR + j, none⟩ = some (.slice A0 bs.length c0) from ⟨(hU.cell (p := ⟨gF, oF + j, none⟩) hgF (fun h => h)).trans cF, (hU.cell (p := ⟨gR, oR + j, none⟩) hgR (fun h => h)).trans cR⟩))
          have HR := Lib.hid (fun (w' : World) (hU : Upd (fun _ => False) W w') => (hrd.upd hU (Nat.le_refl _) (fun _ _ h => h)).more hU.size)
          have HZ := Lib.hid (And.intro hz0 (And.intro hz1 (And.intro hb8 (And.intro hc1 (And.intro (show c0 ≤ 9223372036854775807 by unfold maxLen at hc2; omega) hbn)))))
          have HWS := Lib.hid (And.intro hws (hws.X z bs))
          have hlo := outX_len sw k z bs
          have HLn := Lib.hid (show (outX sw k z bs).length ≤ 8 by have := HK.out.1; omega)
          have HQ := Lib.hid (IntWalk.wrap64_in ((j : Int) + 1) (by have := HK.out.2.2; omega))
          have HB := Lib.hid (show SB W k s q sw l ownC wr.drew from hB.none_ ((Step.refl (fun _ => False) ownC wr).drew))
          have HS0 := Lib.hid (HC.out _ HB.out.upd)
          clear hz hz0 hz1 hvj hc1 hc2 hrd hb8 hbn hgF hcF hgR hcR cF cR hws hB HLo HA hlo
          go_wp2_with fail
          refine wpE_region (S := fun (W' : World) => (W'.cell? ⟨gF, oF + j, none⟩ = some (.int .i64 z) ∧ W'.cell? ⟨gR, oR + j, none⟩ = some (.slice A0 bs.length c0)) ∧ True) (s := 32) (by kernel_rfl) ?_
          have hS : (fun (W' : World) => (W'.cell? ⟨gF, oF + j, none⟩ = some (.int .i64 z) ∧ W'.cell? ⟨gR, oR + j, none⟩ = some (.slice A0 bs.length c0)) ∧ True) _ := ⟨HS0.out, trivial⟩
          refine wpE_take (i := 0) (oi := { dst := some 47, op := Go.Op.move (Go.Operand.tmp 7), type := 24, pos := "law.go:267", after := #[], guard := none }) (v := ?_) rfl (by kernel_rfl) (fun _ _ _ h => h) (Or.inl ⟨by rfl, fun W hW => ?_⟩) hS ?_
          rotate_left
          · obtain ⟨⟨hw0, hw1⟩, hz⟩ := hW; go_simp; (try go_bits); (try rw [if_pos (by omega)]); (try with_reducible rfl)
          (try simp only [Act.put, List.setIfInBounds_toArray, List.set_cons_succ, List.set_cons_zero])
          refine wpE_take (i := 1) (oi := { dst := some 48, op := Go.Op.move (Go.Operand.tmp 1), type := 22, pos := "law.go:267", after := #[], guard := none }) (v := ?_) rfl (by kernel_rfl) (fun _ _ _ h => h) (Or.inl ⟨by rfl, fun W hW => ?_⟩) hS ?_
          rotate_left
          · obtain ⟨⟨hw0, hw1⟩, hz⟩ := hW; go_simp; (try go_bits); (try rw [if_pos (by omega)]); (try with_reducible rfl)
          (try simp only [Act.put, List.setIfInBounds_toArray, List.set_cons_succ, List.set_cons_zero])
          refine wpE_take (i := 2) (oi := { dst := some 49, op := Go.Op.move (Go.Operand.tmp 11), type := 3, pos := "law.go:267", after := #[], guard := none }) (v := ?_) rfl (by kernel_rfl) (fun _ _ _ h => h) (Or.inl ⟨by rfl, fun W hW => ?_⟩) hS ?_
          rotate_left
          · obtain ⟨⟨hw0, hw1⟩, hz⟩ := hW; go_simp; (try go_bits); (try rw [if_pos (by omega)]); (try with_reducible rfl)
          (try simp only [Act.put, List.setIfInBounds_toArray, List.set_cons_succ, List.set_cons_zero])
          refine wpE_take (i := 3) (oi := { dst := some 50, op := Go.Op.indexAddr 22 (Go.Operand.tmp 48) (Go.Operand.tmp 49), type := 0, pos := "law.go:267", after := #[{ on := 1, ground := Go.Ground.data }, { on := 2, ground := Go.Ground.data }], guard := none }) (v := ?_) rfl (by kernel_rfl) (fun _ _ _ h => h) (Or.inl ⟨by rfl, fun W hW => ?_⟩) hS ?_
          rotate_left
          · obtain ⟨⟨hw0, hw1⟩, hz⟩ := hW; go_simp; (try go_bits); (try rw [if_pos (by omega)]); (try with_reducible rfl)
          (try simp only [Act.put, List.setIfInBounds_toArray, List.set_cons_succ, List.set_cons_zero])
          refine wpE_take (i := 4) (oi := { dst := some 51, op := Go.Op.load 3 (Go.Operand.tmp 50), type := 3, pos := "law.go:267", after := #[{ on := 3, ground := Go.Ground.data }], guard := none }) (v := ?_) rfl (by kernel_rfl) (fun _ _ _ h => h) (Or.inl ⟨by rfl, fun W hW => ?_⟩) hS ?_
          rotate_left
          · obtain ⟨⟨hw0, hw1⟩, hz⟩ := hW; go_simp; (try go_bits); (try rw [if_pos (by omega)]); (try with_reducible rfl)
          (try simp only [Act.put, List.setIfInBounds_toArray, List.set_cons_succ, List.set_cons_zero])
          refine wpE_take (i := 5) (oi := { dst := some 52, op := Go.Op.move (Go.Operand.tmp 2), type := 23, pos := "law.go:267", after := #[], guard := none }) (v := ?_) rfl (by kernel_rfl) (fun _ _ _ h => h) (Or.inl ⟨by rfl, fun W hW => ?_⟩) hS ?_
          rotate_left
          · obtain ⟨⟨hw0, hw1⟩, hz⟩ := hW; go_simp; (try go_bits); (try rw [if_pos (by omega)]); (try with_reducible rfl)
          (try simp only [Act.put, List.setIfInBounds_toArray, List.set_cons_succ, List.set_cons_zero])
          refine wpE_take (i := 6) (oi := { dst := some 53, op := Go.Op.move (Go.Operand.tmp 11), type := 3, pos := "law.go:267", after := #[], guard := none }) (v := ?_) rfl (by kernel_rfl) (fun _ _ _ h => h) (Or.inl ⟨by rfl, fun W hW => ?_⟩) hS ?_
          rotate_left
          · obtain ⟨⟨hw0, hw1⟩, hz⟩ := hW; go_simp; (try go_bits); (try rw [if_pos (by omega)]); (try with_reducible rfl)
          (try simp only [Act.put, List.setIfInBounds_toArray, List.set_cons_succ, List.set_cons_zero])
          refine wpE_take (i := 7) (oi := { dst := some 54, op := Go.Op.indexAddr 23 (Go.Operand.tmp 52) (Go.Operand.tmp 53), type := 0, pos := "law.go:267", after := #[{ on := 5, ground := Go.Ground.data }, { on := 6, ground := Go.Ground.data }], guard := none }) (v := ?_) rfl (by kernel_rfl) (fun _ _ _ h => h) (Or.inl ⟨by rfl, fun W hW => ?_⟩) hS ?_
          rotate_left
          · obtain ⟨⟨hw0, hw1⟩, hz⟩ := hW; go_simp; (try go_bits); (try rw [if_pos (by omega)]); (try with_reducible rfl)
          (try simp only [Act.put, List.setIfInBounds_toArray, List.set_cons_succ, List.set_cons_zero])
          refine wpE_take (i := 8) (oi := { dst := some 55, op := Go.Op.load 34 (Go.Operand.tmp 54), type := 34, pos := "law.go:267", after := #[{ on := 7, ground := Go.Ground.data }], guard := none }) (v := ?_) rfl (by kernel_rfl) (fun _ _ _ h => h) (Or.inl ⟨by rfl, fun W hW => ?_⟩) hS ?_
          rotate_left
          · obtain ⟨⟨hw0, hw1⟩, hz⟩ := hW; go_simp; (try go_bits); (try rw [if_pos (by omega)]); (try with_reducible rfl)
          (try simp only [Act.put, List.setIfInBounds_toArray, List.set_cons_succ, List.set_cons_zero])
          refine wpE_take (i := 11) (oi := { dst := some 58, op := Go.Op.move (Go.Operand.tmp 9), type := 28, pos := "law.go:267", after := #[], guard := none }) (v := ?_) rfl (by kernel_rfl) (fun _ _ _ h => h) (Or.inl ⟨by rfl, fun W hW => ?_⟩) hS ?_
          rotate_left
          · obtain ⟨⟨hw0, hw1⟩, hz⟩ := hW; go_simp; (try go_bits); (try rw [if_pos (by omega)]); (try with_reducible rfl)
          (try simp only [Act.put, List.setIfInBounds_toArray, List.set_cons_succ, List.set_cons_zero])
          refine wpE_take (i := 12) (oi := { dst := some 59, op := Go.Op.move (Go.Operand.tmp 1), type := 22, pos := "law.go:267", after := #[], guard := none }) (v := ?_) rfl (by kernel_rfl) (fun _ _ _ h => h) (Or.inl ⟨by rfl, fun W hW => ?_⟩) hS ?_
          rotate_left
          · obtain ⟨⟨hw0, hw1⟩, hz⟩ := hW; go_simp; (try go_bits); (try rw [if_pos (by omega)]); (try with_reducible rfl)
          (try simp only [Act.put, List.setIfInBounds_toArray, List.set_cons_succ, List.set_cons_zero])
          refine wpE_take (i := 13) (oi := { dst := some 60, op := Go.Op.move (Go.Operand.tmp 11), type := 3, pos := "law.go:267", after := #[], guard := none }) (v := ?_) rfl (by kernel_rfl) (fun _ _ _ h => h) (Or.inl ⟨by rfl, fun W hW => ?_⟩) hS ?_
          rotate_left
          · obtain ⟨⟨hw0, hw1⟩, hz⟩ := hW; go_simp; (try go_bits); (try rw [if_pos (by omega)]); (try with_reducible rfl)
          (try simp only [Act.put, List.setIfInBounds_toArray, List.set_cons_succ, List.set_cons_zero])
          refine wpE_take (i := 14) (oi := { dst := some 61, op := Go.Op.indexAddr 22 (Go.Operand.tmp 59) (Go.Operand.tmp 60), type := 0, pos := "law.go:267", after := #[{ on := 12, ground := Go.Ground.data }, { on := 13, ground := Go.Ground.data }], guard := none }) (v := ?_) rfl (by kernel_rfl) (fun _ _ _ h => h) (Or.inl ⟨by rfl, fun W hW => ?_⟩) hS ?_
          rotate_left
          · obtain ⟨⟨hw0, hw1⟩, hz⟩ := hW; go_simp; (try go_bits); (try rw [if_pos (by omega)]); (try with_reducible rfl)
          (try simp only [Act.put, List.setIfInBounds_toArray, List.set_cons_succ, List.set_cons_zero])
          refine wpE_take (i := 15) (oi := { dst := some 62, op := Go.Op.load 3 (Go.Operand.tmp 61), type := 3, pos := "law.go:267", after := #[{ on := 14, ground := Go.Ground.data }], guard := none }) (v := ?_) rfl (by kernel_rfl) (fun _ _ _ h => h) (Or.inl ⟨by rfl, fun W hW => ?_⟩) hS ?_
          rotate_left
          · obtain ⟨⟨hw0, hw1⟩, hz⟩ := hW; go_simp; (try go_bits); (try rw [if_pos (by omega)]); (try with_reducible rfl)
          (try simp only [Act.put, List.setIfInBounds_toArray, List.set_cons_succ, List.set_cons_zero])
          refine wpE_take (i := 16) (oi := { dst := some 63, op := Go.Op.move (Go.Operand.tmp 2), type := 23, pos := "law.go:267", after := #[], guard := none }) (v := ?_) rfl (by kernel_rfl) (fun _ _ _ h => h) (Or.inl ⟨by rfl, fun W hW => ?_⟩) hS ?_
          rotate_left
          · obtain ⟨⟨hw0, hw1⟩, hz⟩ := hW; go_simp; (try go_bits); (try rw [if_pos (by omega)]); (try with_reducible rfl)
          (try simp only [Act.put, List.setIfInBounds_toArray, List.set_cons_succ, List.set_cons_zero])
          refine wpE_take (i := 17) (oi := { dst := some 64, op := Go.Op.move (Go.Operand.tmp 11), type := 3, pos := "law.go:267", after := #[], guard := none }) (v := ?_) rfl (by kernel_rfl) (fun _ _ _ h => h) (Or.inl ⟨by rfl, fun W hW => ?_⟩) hS ?_
          rotate_left
          · obtain ⟨⟨hw0, hw1⟩, hz⟩ := hW; go_simp; (try go_bits); (try rw [if_pos (by omega)]); (try with_reducible rfl)
          (try simp only [Act.put, List.setIfInBounds_toArray, List.set_cons_succ, List.set_cons_zero])
          refine wpE_take (i := 18) (oi := { dst := some 65, op := Go.Op.indexAddr 23 (Go.Operand.tmp 63) (Go.Operand.tmp 64), type := 0, pos := "law.go:267", after := #[{ on := 16, ground := Go.Ground.data }, { on := 17, ground := Go.Ground.data }], guard := none }) (v := ?_) rfl (by kernel_rfl) (fun _ _ _ h => h) (Or.inl ⟨by rfl, fun W hW => ?_⟩) hS ?_
          rotate_left
          · obtain ⟨⟨hw0, hw1⟩, hz⟩ := hW; go_simp; (try go_bits); (try rw [if_pos (by omega)]); (try with_reducible rfl)
          (try simp only [Act.put, List.setIfInBounds_toArray, List.set_cons_succ, List.set_cons_zero])
          refine wpE_take (i := 19) (oi := { dst := some 66, op := Go.Op.load 34 (Go.Operand.tmp 65), type := 34, pos := "law.go:267", after := #[{ on := 18, ground := Go.Ground.data }], guard := none }) (v := ?_) rfl (by kernel_rfl) (fun _ _ _ h => h) (Or.inl ⟨by rfl, fun W hW => ?_⟩) hS ?_
          rotate_left
          · obtain ⟨⟨hw0, hw1⟩, hz⟩ := hW; go_simp; (try go_bits); (try rw [if_pos (by omega)]); (try with_reducible rfl)
          (try simp only [Act.put, List.setIfInBounds_toArray, List.set_cons_succ, List.set_cons_zero])
          refine wpE_only (i := 9) (oi := { dst := some 56, op := Go.Op.call { callee := Go.Callee.value (Go.Operand.func 10), args := #[Go.Operand.tmp 55], argTypes := #[34] }, type := 34, pos := "law.go:267", after := #[{ on := 8, ground := Go.Ground.data }], guard := none }) rfl (by kernel_rfl) (by rfl) (fun K hK => ?_)
          go_simp
          refine (law_CopyBytes ownC 6 _ A0 bs.length c0 _ (HR.out _ HB.out.upd) (u8L_one _) HZ.out.2.2.2.2.2).mono ?_
          rintro e wA ⟨vA, ownC, rfl, hSA, hRA⟩
          obtain ⟨A9, c9, hv9, hc9, _⟩ := hRA.form
          subst hv9
          have HB := Lib.hid (HB.out.none_ hSA)
          (try have HRr := Lib.hid (HRr.out.step hSA (fun h => h)))
          have HCo := Lib.hid (And.intro hRA (And.intro hc9 hRA.cap))
          have hS := And.intro (HC.out _ HB.out.upd) trivial
          clear hSA hRA hc9
          refine hK _ _ hS ?_; clear hK K
          (try simp only [Act.put, List.setIfInBounds_toArray, List.set_cons_succ, List.set_cons_zero])
          refine wpE_only (i := 10) (oi := { dst := some 57, op := Go.Op.call { callee := Go.Callee.value (Go.Operand.func 9), args := #[Go.Operand.tmp 47, Go.Operand.tmp 51, Go.Operand.tmp 56], argTypes := #[24, 3, 34] }, type := 22, pos := "law.go:267", after := #[{ on := 0, ground := Go.Ground.data }, { on := 4, ground := Go.Ground.data }, { on := 9, ground := Go.Ground.data }, { on := 9, ground := Go.Ground.chain }], guard := none }) rfl (by kernel_rfl) (by rfl) (fun K hK => ?_)
          go_simp
          refine (sendX HB.out.a HWS.out.1 HK.out.1.2 z HZ.out.1 HZ.out.2.1 A9 c9 bs (HCo.out.1.reads rfl) HZ.out.2.2.1 HCo.out.2.1 (by have := HCo.out.2.2; unfold maxLen at this; omega) 4 (by decide)).mono ?_
          rintro e wA ⟨vS, ownC, rfl, hSA, hAA, hRA⟩
          obtain ⟨AS, cS, hvS, _, _⟩ := hRA.form
          subst hvS
          have HB := Lib.hid (HB.out.goA hSA hAA)
          (try have HRr := Lib.hid (HRr.out.step hSA (by decide)))
          have HSr := Lib.hid hRA
          have hS := And.intro (HC.out _ HB.out.upd) trivial
          clear hSA hAA hRA HCo
          refine hK _ _ hS ?_; clear hK K
          (try simp only [Act.put, List.setIfInBounds_toArray, List.set_cons_succ, List.set_cons_zero])
          refine wpE_only (i := 20) (oi := { dst := some 67, op := Go.Op.call { callee := Go.Callee.value (Go.Operand.func 11), args := #[Go.Operand.tmp 58, Go.Operand.tmp 62, Go.Operand.tmp 66], argTypes := #[28, 3, 34] }, type := 22, pos := "law.go:267", after := #[{ on := 11, ground := Go.Ground.data }, { on := 15, ground := Go.Ground.data }, { on := 19, ground := Go.Ground.data }, { on := 10, ground := Go.Ground.chain }], guard := none }) rfl (by kernel_rfl) (by rfl) (fun K hK => ?_)
          go_simp
          refine (refX HB.out.r (by decide) HWS.out.1 HK.out.1.2 z A0 c0 bs (HR.out _ HB.out.upd) HZ.out.2.2.1 HZ.out.2.2.2.1 HZ.out.2.2.2.2.1 5 (by decide) (by decide)).mono ?_
          rintro e wA ⟨vR, ownC, rfl, hSA, hAA, hRA⟩
          obtain ⟨AQ, cQ, hvQ, _, _⟩ := hRA.form
          subst hvQ
          have HB := Lib.hid (HB.out.goR hSA hAA)
          (try have HCo := Lib.hid (And.intro (HCo.out.1.step hSA (by decide)) HCo.out.2))
          (try have HSr := Lib.hid (HSr.out.step hSA (by decide)))
          have HRr := Lib.hid hRA
          have hS := And.intro (HC.out _ HB.out.upd) trivial
          clear hSA hAA hRA
          refine hK _ _ hS ?_; clear hK K
          (try simp only [Act.put, List.setIfInBounds_toArray, List.set_cons_succ, List.set_cons_zero])
          refine wpE_only (i := 21) (oi := { dst := some 68, op := Go.Op.call { callee := Go.Callee.value (Go.Operand.func 8), args := #[Go.Operand.tmp 57, Go.Operand.tmp 67], argTypes := #[22, 22] }, type := 4, pos := "law.go:267", after := #[{ on := 10, ground := Go.Ground.data }, { on := 20, ground := Go.Ground.data }, { on := 20, ground := Go.Ground.chain }], guard := none }) rfl (by kernel_rfl) (by rfl) (fun K hK => ?_)
          go_simp
          refine (same_ps (ca := cS) (cb := cQ) HLn.out (HSr.out.reads rfl) (HRr.out.reads rfl)).mono ?_
          rintro e wA ⟨rfl, nq, rfl⟩
          have HB := Lib.hid (HB.out.none_ ((Step.refl (fun _ => False) _ _).drewN nq))
          obtain ⟨vK, hbK, hoK, hrK⟩ := HB.out.r
          obtain ⟨AK, cK, hvK, _, _⟩ := hrK.form
          subst hvK
          have hcK := hbK.cell 1
          simp only [List.getElem?_toArray, List.getElem?_cons_zero, List.getElem?_cons_succ] at hcK
          have hS := HC.out _ HB.out.upd
          clear HSr HRr hbK hoK hrK
          refine hK _ _ ⟨hS, trivial⟩ ?_; clear hK K
          refine wpE_mono (S' := fun (W' : World) => (W'.cell? ⟨gF, oF + j, none⟩ = some (.int .i64 z) ∧ W'.cell? ⟨gR, oR + j, none⟩ = some (.slice A0 bs.length c0)) ∧ W'.cell? ⟨q, 1, none⟩ = some (.slice AK (lX l k z bs).length cK)) (fun _ h => ⟨h.1, trivial⟩) _ _ _ _ ?_
          have hS := And.intro hS hcK
          clear hcK
          (try simp only [Act.put, List.setIfInBounds_toArray, List.set_cons_succ, List.set_cons_zero])
          refine wpE_take (i := 22) (oi := { dst := some 69, op := Go.Op.unOp Go.UnOp.not 4 (Go.Operand.tmp 68), type := 4, pos := "law.go:267", after := #[{ on := 21, ground := Go.Ground.data }], guard := none }) (v := ?_) rfl (by kernel_rfl) (fun _ _ _ h => h) (Or.inl ⟨by rfl, fun W hW => ?_⟩) hS ?_
          rotate_left
          · obtain ⟨⟨hw0, hw1⟩, hz⟩ := hW; go_simp; (try go_bits); (try rw [if_pos (by omega)]); (try with_reducible rfl)
          (try simp only [Act.put, List.setIfInBounds_toArray, List.set_cons_succ, List.set_cons_zero])
          refine wpE_take (i := 23) (oi := { dst := some 70, op := Go.Op.move (Go.Operand.tmp 69), type := 4, pos := "law.go:267", after := #[{ on := 22, ground := Go.Ground.data }, { on := 21, ground := Go.Ground.chain }], guard := none }) (v := ?_) rfl (by kernel_rfl) (fun _ _ _ h => h) (Or.inl ⟨by rfl, fun W hW => ?_⟩) hS ?_
          rotate_left
          · obtain ⟨⟨hw0, hw1⟩, hz⟩ := hW; go_simp; (try go_bits); (try rw [if_pos (by omega)]); (try with_reducible rfl)
          (try simp only [Act.put, List.setIfInBounds_toArray, List.set_cons_succ, List.set_cons_zero])
          refine wpE_take (i := 24) (oi := { dst := some 71, op := Go.Op.move (Go.Operand.tmp 7), type := 24, pos := "law.go:267", after := #[{ on := 23, ground := Go.Ground.guard }], guard := some (23, false) }) (v := ?_) rfl (by kernel_rfl) (fun _ _ _ h => h) (Or.inl ⟨by rfl, fun W hW => ?_⟩) hS ?_
          rotate_left
          · obtain ⟨⟨hw0, hw1⟩, hz⟩ := hW; go_simp; (try go_bits); (try rw [if_pos (by omega)]); (try with_reducible rfl)
          (try simp only [Act.put, List.setIfInBounds_toArray, List.set_cons_succ, List.set_cons_zero])
          refine wpE_take (i := 26) (oi := { dst := some 73, op := Go.Op.move (Go.Operand.tmp 9), type := 28, pos := "law.go:267", after := #[{ on := 23, ground := Go.Ground.guard }], guard := some (23, false) }) (v := ?_) rfl (by kernel_rfl) (fun _ _ _ h => h) (Or.inl ⟨by rfl, fun W hW => ?_⟩) hS ?_
          rotate_left
          · obtain ⟨⟨hw0, hw1⟩, hz⟩ := hW; go_simp; (try go_bits); (try rw [if_pos (by omega)]); (try with_reducible rfl)
          (try simp only [Act.put, List.setIfInBounds_toArray, List.set_cons_succ, List.set_cons_zero])
          refine wpE_take (i := 27) (oi := { dst := some 74, op := Go.Op.nilCheck (Go.Operand.tmp 73), type := 0, pos := "law.go:267", after := #[{ on := 26, ground := Go.Ground.data }, { on := 23, ground := Go.Ground.guard }], guard := some (23, false) }) (v := ?_) rfl (by kernel_rfl) (fun _ _ _ h => h) (Or.inl ⟨by rfl, fun W hW => ?_⟩) hS ?_
          rotate_left
          · obtain ⟨⟨hw0, hw1⟩, hz⟩ := hW; go_simp; (try go_bits); (try rw [if_pos (by omega)]); (try with_reducible rfl)
          (try simp only [Act.put, List.setIfInBounds_toArray, List.set_cons_succ, List.set_cons_zero])
          refine wpE_take (i := 28) (oi := { dst := some 75, op := Go.Op.fieldAddr 39 (Go.Operand.tmp 74) 1, type := 0, pos := "law.go:267", after := #[{ on := 27, ground := Go.Ground.data }, { on := 23, ground := Go.Ground.guard }], guard := some (23, false) }) (v := ?_) rfl (by kernel_rfl) (fun _ _ _ h => h) (Or.inl ⟨by rfl, fun W hW => ?_⟩) hS ?_
          rotate_left
          · obtain ⟨⟨hw0, hw1⟩, hz⟩ := hW; go_simp; (try go_bits); (try rw [if_pos (by omega)]); (try with_reducible rfl)
          (try simp only [Act.put, List.setIfInBounds_toArray, List.set_cons_succ, List.set_cons_zero])
          refine wpE_take (i := 29) (oi := { dst := some 76, op := Go.Op.load 37 (Go.Operand.tmp 75), type := 37, pos := "law.go:267", after := #[{ on := 28, ground := Go.Ground.data }, { on := 23, ground := Go.Ground.guard }], guard := some (23, false) }) (v := ?_) rfl (by kernel_rfl) (fun _ _ _ h => h) (Or.inl ⟨by rfl, fun W hW => ?_⟩) hS ?_
          rotate_left
          · obtain ⟨⟨hw0, hw1⟩, hz⟩ := hW; go_simp; (try go_bits); (try rw [if_pos (by omega)]); (try with_reducible rfl)
          (try simp only [Act.put, List.setIfInBounds_toArray, List.set_cons_succ, List.set_cons_zero])
          refine wpE_take (i := 30) (oi := { dst := some 77, op := Go.Op.call { callee := Go.Callee.builtin Go.Builtin.len, args := #[Go.Operand.tmp 76], argTypes := #[37] }, type := 3, pos := "law.go:267", after := #[{ on := 29, ground := Go.Ground.data }, { on := 23, ground := Go.Ground.guard }], guard := some (23, false) }) (v := ?_) rfl (by kernel_rfl) (fun _ _ _ h => h) (Or.inl ⟨by rfl, fun W hW => ?_⟩) hS ?_
          rotate_left
          · obtain ⟨⟨hw0, hw1⟩, hz⟩ := hW; go_simp; (try go_bits); (try rw [if_pos (by omega)]); (try with_reducible rfl)
          (try simp only [Act.put, List.setIfInBounds_toArray, List.set_cons_succ, List.set_cons_zero])
          refine wpE_only (i := 25) (oi := { dst := some 72, op := Go.Op.call { callee := Go.Callee.value (Go.Operand.func 12), args := #[Go.Operand.tmp 71], argTypes := #[24] }, type := 3, pos := "law.go:267", after := #[{ on := 24, ground := Go.Ground.data }, { on := 23, ground := Go.Ground.chain }, { on := 23, ground := Go.Ground.guard }], guard := some (23, false) }) rfl (by kernel_rfl) (by rfl) (fun K hK => ?_)
          go_simp
          refine (sw_Learned HB.out.a).mono ?_
          rintro e wA ⟨rfl, rfl⟩
          rw [HWS.out.2.len]
          refine hK _ _ hS ?_; clear hK K
          (try simp only [Act.put, List.setIfInBounds_toArray, List.set_cons_succ, List.set_cons_zero])
          refine wpE_take (i := 31) (oi := { dst := some 78, op := Go.Op.binOp Go.BinOp.neq 3 (Go.Operand.tmp 72) (Go.Operand.tmp 77) 3, type := 4, pos := "law.go:267", after := #[{ on := 25, ground := Go.Ground.data }, { on := 30, ground := Go.Ground.data }, { on := 23, ground := Go.Ground.guard }], guard := some (23, false) }) (v := ?_) rfl (by kernel_rfl) (fun _ _ _ h => h) (Or.inl ⟨by rfl, fun W hW => ?_⟩) hS ?_
          rotate_left
          · obtain ⟨⟨hw0, hw1⟩, hz⟩ := hW; go_simp; (try go_bits); (try rw [if_pos (by omega)]); (try with_reducible rfl)
          (try simp only [Act.put, List.setIfInBounds_toArray, List.set_cons_succ, List.set_cons_zero])
          refine wpE_last (oi := { dst := some 79, op := Go.Op.pick (Go.Operand.tmp 70) (Go.Operand.const (Go.Value.bool true)) (Go.Operand.tmp 78), type := 4, pos := "law.go:267", after := #[{ on := 23, ground := Go.Ground.data }, { on := 31, ground := Go.Ground.data }], guard := none }) rfl (by kernel_rfl) (by kernel_rfl) (by rfl) (fun K hK => ?_)
          go_simp; (try go_bits); refine hK _ _ ?_; clear hK K
          all_goals
            clear hS
            have HE := Lib.hid (And.intro HB.out HWS.out.2)
            clear HB HWS
            go_wp2
            exact ⟨⟨j + 1, by omega, by omega, by rw [HQ.out]; go_num, _, _, _, HE.out.1, HE.out.2⟩, meas_ltW nR j hlt HK.out.2.2⟩
        · have hji2 : ¬ (j : Int) < (zs.length : Int) := by omega
          have HU := Lib.hid hB.upd
          clear hB hws HLo HA
          go_wp2_with (go_at_call 7; (with_reducible refine (awake14 _).mono ?_); rintro e w10 ⟨rfl, hU10⟩)
          go_ret
          exact ⟨rfl, HU.out.trans hU10⟩
      · have hji : ¬ (j : Int) < (nR : Int) := by omega
        have HU := Lib.hid hB.upd
        clear hB hws HLo HA
        go_wp2_with (go_at_call 7; (with_reducible refine (awake14 _).mono ?_); rintro e w10 ⟨rfl, hU10⟩)
        go_ret
        exact ⟨rfl, HU.out.trans hU10⟩
  · have HN := Lib.hid (NewSwitch_no (fun _ => 0) ports hp.1 hp.2 hk W)
    have HN2 := Lib.hid (ref_NewSwitch_no ports hp.1 hp.2 hk W)
    clear hrF hzb hrR hvs hk hp hzl hnR
    go_enter Try.func3, Try.ntmps3
    go_wp2_with fail
    ((with_reducible refine HN.out.mono ?_); rintro e w1 ⟨rfl, rfl⟩)
    clear HN
    go_wp2_with fail
    ((with_reducible refine HN2.out.mono ?_); rintro e w1 ⟨rfl, rfl⟩)
    clear HN2
    go_wp2_with (go_at_call 7; (with_reducible refine (awake14 _).mono ?_); rintro e w10 ⟨rfl, hU10⟩)
    go_ret
    exact ⟨rfl, hU10⟩
end Go.Proofs.Ytpknabblllighaa
