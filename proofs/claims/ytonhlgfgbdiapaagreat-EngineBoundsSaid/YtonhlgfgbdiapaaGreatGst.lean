import Derived.Test.YtonhlgfgbdiapaaGreatRam2
import Derived.WalkMore
import Derived.ScopeJumps
import Derived.OwnWalk
/- What hardware reads (page.Guest), whatever stands in memory. Written by gst.py (its marks: three passes alike). -/
namespace Go.Proofs.YtonhlgfgbdiapaaGreat
set_option linter.unusedVariables false
set_option linter.unusedSimpArgs false
open Go.RowKit
set_option maxRecDepth 100000

/-- an entry of a table -/
def ent (m : Nat → Int) (t i : Nat) : Nat := (num m (t * 4096 + 8 * i) 8).toNat
theorem ent_num {m : Nat → Int} (hm : ∀ x, 0 ≤ m x ∧ m x < 256) (t i : Nat) : num m (t * 4096 + 8 * i) 8 = (ent m t i : Int) := by
  unfold ent; have := num_nonneg hm 8 (t * 4096 + 8 * i); omega
theorem ent_lt {m : Nat → Int} (hm : ∀ x, 0 ≤ m x ∧ m x < 256) (t i : Nat) : ent m t i < 18446744073709551616 := by
  have h1 := num_lt hm 8 (t * 4096 + 8 * i)
  have h2 := ent_num hm t i
  rw [show (256 : Int) ^ 8 = 18446744073709551616 from rfl] at h1
  omega
/-- what a read of an entry comes to -/
def outG (b0 n t : Nat) : Prop := t < b0 ∨ b0 + n ≤ t
instance (b0 n t : Nat) : Decidable (outG b0 n t) := by unfold outG; infer_instance
def entR (b0 n : Nat) (m : Nat → Int) (t i : Nat) : Int × Int := if outG b0 n t then (0, 3) else (((ent m (t - b0) i : Nat) : Int), 0)
def badE (e : Nat) : Bool := (e &&& 1 == 0) || (e &&& 6 == 4) || (e / 18014398509481984 != 0)
def leafE (e : Nat) : Bool := e &&& 10 != 0
def nxtE (e : Nat) : Nat := e / 1024 % 17592186044416
def misE (e lev : Nat) : Bool := e / 1024 % 2 ^ (9 * lev) != 0
/-- down from a level: a fault, or a leaf and its level -/
def dnG (b0 n : Nat) (m : Nat → Int) (a : Nat) : Nat → Nat → Int × Nat × Nat
  | 0, t => if outG b0 n t then (3, 0, 0) else if badE (ent m (t - b0) (a / 2 ^ 12 % 512)) then (1, 0, 0) else if leafE (ent m (t - b0) (a / 2 ^ 12 % 512)) then (0, ent m (t - b0) (a / 2 ^ 12 % 512), 0) else (1, 0, 0)
  | 1, t => if outG b0 n t then (3, 0, 0) else if badE (ent m (t - b0) (a / 2 ^ 21 % 512)) then (1, 0, 0) else if leafE (ent m (t - b0) (a / 2 ^ 21 % 512)) then (if misE (ent m (t - b0) (a / 2 ^ 21 % 512)) 1 then (1, 0, 0) else (0, ent m (t - b0) (a / 2 ^ 21 % 512), 1)) else dnG b0 n m a 0 (nxtE (ent m (t - b0) (a / 2 ^ 21 % 512)))
  | _ + 2, t => if outG b0 n t then (3, 0, 0) else if badE (ent m (t - b0) (a / 2 ^ 30 % 512)) then (1, 0, 0) else if leafE (ent m (t - b0) (a / 2 ^ 30 % 512)) then (if misE (ent m (t - b0) (a / 2 ^ 30 % 512)) 2 then (1, 0, 0) else (0, ent m (t - b0) (a / 2 ^ 30 % 512), 2)) else dnG b0 n m a 1 (nxtE (ent m (t - b0) (a / 2 ^ 30 % 512)))
theorem mod_and (x k : Nat) (hx : x < 18446744073709551616) (hk : k ≤ 64) : bits .and .u64 (x : Int) ((2 ^ k - 1 : Nat) : Int) = ((x % 2 ^ k : Nat) : Int) := by
  have h1 : 2 ^ k ≤ 2 ^ 64 := Nat.pow_le_pow_right (by decide) hk
  rw [u64_and_nat x _ hx (by omega), Nat.and_two_pow_sub_one_eq_mod]
theorem and511G (x : Nat) (hx : x < 18446744073709551616) : bits .and .u64 (x : Int) 511 = ((x % 512 : Nat) : Int) := mod_and x 9 hx (by decide)
theorem and_zeroG (x : Int) (hx : 0 ≤ x ∧ x < 18446744073709551616) : bits .and .u64 x 0 = 0 := by
  obtain ⟨X, rfl⟩ := Int.eq_ofNat_of_zero_le hx.1
  have := hx.2
  rw [show (0 : Int) = ((0 : Nat) : Int) from rfl, u64_and_nat _ _ (by omega) (by decide), Nat.and_zero]
theorem idx_G (a : Nat) (ha : a < 18446744073709551616) : bits .and .u64 ((a / 1073741824 : Nat) : Int) 511 = ((a / 1073741824 % 512 : Nat) : Int) ∧ bits .and .u64 ((a / 2097152 : Nat) : Int) 511 = ((a / 2097152 % 512 : Nat) : Int) ∧ bits .and .u64 ((a / 4096 : Nat) : Int) 511 = ((a / 4096 % 512 : Nat) : Int) :=
  ⟨and511G _ (by omega), and511G _ (by omega), and511G _ (by omega)⟩
theorem nxt_g (e : Nat) (he : e < 18446744073709551616) : bits .and .u64 ((e : Int) / 1024) 17592186044415 = ((nxtE e : Nat) : Int) := by
  rw [show ((e : Int) / 1024) = ((e / 1024 : Nat) : Int) from by omega]
  exact mod_and (e / 1024) 44 (by omega) (by decide)
theorem nxt_lt (e : Nat) : nxtE e < 17592186044416 := Nat.mod_lt _ (by decide)
theorem and10_g (e : Nat) (he : e < 18446744073709551616) : (bits .and .u64 (e : Int) 10 == 0) = !leafE e := by
  rw [show (10 : Int) = ((10 : Nat) : Int) from rfl, u64_and_nat _ _ he (by decide)]
  unfold leafE
  rcases Nat.eq_zero_or_pos (e &&& 10) with h | h
  · rw [h]; rfl
  · have h1 : (((e &&& 10 : Nat) : Int) == 0) = false := by simp; omega
    have h2 : (e &&& 10 != 0) = true := by simp; omega
    rw [h1, h2]; rfl
theorem misM2 (e : Nat) (he : e < 18446744073709551616) : (bits .and .u64 ((e : Int) / 1024) 262143 != 0) = misE e 2 := by
  rw [show ((e : Int) / 1024) = ((e / 1024 : Nat) : Int) from by omega]
  have := mod_and (e / 1024) 18 (by omega) (by decide)
  rw [show ((2 ^ 18 - 1 : Nat) : Int) = 262143 from rfl] at this
  rw [this]
  unfold misE
  rw [show 9 * 2 = 18 from rfl]
  rcases Nat.eq_zero_or_pos (e / 1024 % 2 ^ 18) with h | h
  · rw [h]; rfl
  · have h1 : (((e / 1024 % 2 ^ 18 : Nat) : Int) != 0) = true := by simp; omega
    have h2 : (e / 1024 % 2 ^ 18 != 0) = true := by simp; omega
    rw [h1, h2]
theorem misM1 (e : Nat) (he : e < 18446744073709551616) : (bits .and .u64 ((e : Int) / 1024) 511 != 0) = misE e 1 := by
  rw [show ((e : Int) / 1024) = ((e / 1024 : Nat) : Int) from by omega]
  have := mod_and (e / 1024) 9 (by omega) (by decide)
  rw [show ((2 ^ 9 - 1 : Nat) : Int) = 511 from rfl] at this
  rw [this]
  unfold misE
  rw [show 9 * 1 = 9 from rfl]
  rcases Nat.eq_zero_or_pos (e / 1024 % 2 ^ 9) with h | h
  · rw [h]; rfl
  · have h1 : (((e / 1024 % 2 ^ 9 : Nat) : Int) != 0) = true := by simp; omega
    have h2 : (e / 1024 % 2 ^ 9 != 0) = true := by simp; omega
    rw [h1, h2]
theorem wrong_g (e : Nat) (he : e < 18446744073709551616) (w : World) :
    Calls Tryz.prog 134 #[.int .u64 (e : Int)] w fun r w' => r = .returned (.bool (badE e)) ∧ w = w' := by
  obtain ⟨b1, h1⟩ : ∃ b, (e &&& 1 == 0) = b := ⟨_, rfl⟩
  obtain ⟨b2, h2⟩ : ∃ b, (e &&& 6 == 4) = b := ⟨_, rfl⟩
  obtain ⟨b3, h3⟩ : ∃ b, (e / 18014398509481984 != 0) = b := ⟨_, rfl⟩
  have hb : badE e = (b1 || b2 || b3) := by unfold badE; rw [h1, h2, h3]
  have g1 : (bits .and .u64 (e : Int) 1 == 0) = b1 := by
    rw [show (1 : Int) = ((1 : Nat) : Int) from rfl, u64_and_nat _ _ he (by decide), ← h1]
    rw [Bool.eq_iff_iff, beq_iff_eq, beq_iff_eq]; omega
  have g2 : (bits .and .u64 (e : Int) 6 == 4) = b2 := by
    rw [show (6 : Int) = ((6 : Nat) : Int) from rfl, u64_and_nat _ _ he (by decide), ← h2]
    rw [Bool.eq_iff_iff, beq_iff_eq, beq_iff_eq]; omega
  have g3 : ((e : Int) / 18014398509481984 != 0) = b3 := by
    rw [← h3]
    rw [Bool.eq_iff_iff, bne_iff_ne, bne_iff_ne]; omega
  rw [hb]
  have g3' : ((e : Int) / 18014398509481984 == 0) = !b3 := by rw [← g3]; simp [bne]
  clear h1 h2 h3 hb
  cases b1 <;> cases b2 <;> cases b3
  all_goals
    go_enter Tryz.func134, Tryz.ntmps134
    go_wp2
    go_ret
    exact ⟨rfl, rfl⟩
section
variable {own : Nat → Nat} {c rp n b0 : Nat} {m : Nat → Int} {w : World}
theorem page_entryB (rp : Nat) (w : World) :
    Calls Tryz.prog 98 #[.pointer (some ⟨rp, 0, none⟩)] w fun e w' => ∃ b, e = .returned (.func (.func 117) #[] #[.pointer (some ⟨b, 0, none⟩)]) ∧ Upd (fun _ => False) w w' ∧ w.heap.size ≤ b ∧ Blk w' b 31 #[.pointer (some ⟨rp, 0, none⟩)] := by
  have HB := Lib.hid (Blk.new w 31 #[.pointer (some ⟨rp, 0, none⟩)])
  go_enter Tryz.func98, Tryz.ntmps98
  go_wp2
  go_ret
  exact ⟨_, rfl, (Upd.refl _ _).alloc _, Nat.le_refl _, HB.out⟩
theorem page_entryG (h : MemAt ramK own c w rp (b0 * 4096) n m) (b : Nat) (hB : Blk w b 31 #[.pointer (some ⟨rp, 0, none⟩)]) (t i : Nat) (ht : t < 18446744073709551616) (hi : i < 512) :
    Calls Tryz.prog 117 #[.int .u64 (t : Int), .int .u64 (i : Int), .pointer (some ⟨b, 0, none⟩)] w fun e w' => e = .returned (.tuple #[.int .u64 (entR b0 n m t i).1, .int .i64 (entR b0 n m t i).2]) ∧ Upd (fun _ => False) w w' := by
  have hn := h.sizes.2.2
  have hbd : ∀ x, 0 ≤ m x ∧ m x < 256 := h.bd
  have c0 := hB.cell 0
  simp only [List.getElem?_toArray, List.getElem?_cons_zero] at c0
  have hlt := hB.lt
  by_cases h52 : 4503599627370496 ≤ t
  · have he : entR b0 n m t i = (0, 3) := if_pos (by have := h.sizes.1; unfold outG; omega)
    have hc : decide ((4503599627370496 : Int) ≤ (t : Int)) = true := by simp; omega
    rw [he]
    clear h he hB hbd
    go_enter Tryz.func117, Tryz.ntmps117
    go_wp2
    go_ret2
    exact ⟨rfl, Upd.refl _ _⟩
  · have hc : decide ((4503599627370496 : Int) ≤ (t : Int)) = false := by simp; omega
    have hR := ram_Read h ((t * 4096 + 8 * i : Nat) : Int) 8 (by omega) (by omega) (by omega) (by omega)
    rw [show ((t * 4096 + 8 * i : Nat) : Int) = (t : Int) * 4096 + 8 * (i : Int) from by omega] at hR
    by_cases hin : outG b0 n t
    · have he : entR b0 n m t i = (0, 3) := if_pos hin
      have hr : rdR (b0 * 4096) n m ((t : Int) * 4096 + 8 * (i : Int)) 8 = (0, false) := by
        unfold rdR
        have : hasR (b0 * 4096) n ((t : Int) * 4096 + 8 * (i : Int)) 8 = false := by
          rw [Bool.eq_false_iff]; intro hh; rw [hasR_iff] at hh; unfold outG at hin; omega
        rw [this]; simp
      rw [hr] at hR
      have HR := Lib.hid hR
      rw [he]
      clear h he hB hbd hR hr
      go_enter Tryz.func117, Tryz.ntmps117
      go_wp2_with fail
      refine HR.out.mono ?_; rintro r w2 ⟨rfl, kk, rfl⟩
      have HU := Lib.hid ((Upd.refl (fun _ => False) w).drewN kk)
      clear HR
      go_wp2
      go_ret2
      exact ⟨rfl, HU.out⟩
    · have he : entR b0 n m t i = (((ent m (t - b0) i : Nat) : Int), 0) := if_neg hin
      have hr : rdR (b0 * 4096) n m ((t : Int) * 4096 + 8 * (i : Int)) 8 = (((ent m (t - b0) i : Nat) : Int), true) := by
        have hh : hasR (b0 * 4096) n ((t : Int) * 4096 + 8 * (i : Int)) 8 = true := hasR_iff.2 (by unfold outG at hin; omega)
        unfold rdR
        rw [hh, show okS 8 = true from rfl]
        rw [show (true && true) = true from rfl, if_pos rfl, ← ent_num hbd (t - b0) i]
        rw [show (((t : Int) * 4096 + 8 * (i : Int)) - ((b0 * 4096 : Nat) : Int)).toNat = (t - b0) * 4096 + 8 * i from by unfold outG at hin; omega]
        rfl
      rw [hr] at hR
      have HR := Lib.hid hR
      rw [he]
      clear h he hB hbd hR hr
      generalize ent m (t - b0) i = e at *
      go_enter Tryz.func117, Tryz.ntmps117
      go_wp2_with fail
      refine HR.out.mono ?_; rintro r w2 ⟨rfl, kk, rfl⟩
      have HU := Lib.hid ((Upd.refl (fun _ => False) w).drewN kk)
      clear HR
      go_wp2
      go_ret2
      exact ⟨rfl, HU.out⟩
/-- what is gone through, at block b -/
def GecAt (w : World) (b rb : Nat) (leaf : Int) (lev : Int) (root : Int) : Prop :=
  Blk w b 187 #[.func (.func 117) #[] #[.pointer (some ⟨rb, 0, none⟩)], .int .u64 leaf, .int .i64 lev, .int .u64 root]
theorem GecAt.cells {b rb : Nat} {leaf lev root : Int} (h : GecAt w b rb leaf lev root) : w.cell? ⟨b, 0, none⟩ = some (.func (.func 117) #[] #[.pointer (some ⟨rb, 0, none⟩)]) ∧ w.cell? ⟨b, 1, none⟩ = some (.int .u64 leaf) ∧ w.cell? ⟨b, 2, none⟩ = some (.int .i64 lev) ∧ w.cell? ⟨b, 3, none⟩ = some (.int .u64 root) := ⟨h.cell 0, h.cell 1, h.cell 2, h.cell 3⟩
end
theorem Exit.jumpG_mono {l : Nat} {J J' : Act → World → Prop} {Q : Exit → Act → World → Prop} (h : ∀ a w, J a w → J' a w) : ∀ e a w, Exit.jump l J Q e a w → Exit.jump l J' Q e a w := by
  intro e a w hq
  cases e with
  | goto l' => exact ⟨hq.1, h _ _ hq.2⟩
  | _ => exact hq
theorem exists_minG {p : Nat → Prop} (h : ∃ k, p k) : ∃ k, p k ∧ ∀ j, j < k → ¬ p j := by
  obtain ⟨k, hk⟩ := h
  induction k using Nat.strongRecOn with
  | _ k ih =>
    by_cases hx : ∃ j, j < k ∧ p j
    · obtain ⟨j, hj, hp⟩ := hx
      exact ih j hj hp
    · exact ⟨k, hk, fun j hj hp => hx ⟨j, hj, hp⟩⟩
/-- so many jumps back -/
def jumpsG (P : Program) (rest : Code) (l : Nat) (Q : Exit → Act → World → Prop) : Nat → Act → World → Prop
  | 0, _, _ => False
  | k + 1, a, w => rest.wp P (Exit.jump l (jumpsG P rest l Q k) Q) a w
theorem jumpsG_succ {P : Program} {rest : Code} {l k : Nat} {Q : Exit → Act → World → Prop} {a : Act} {w : World} : jumpsG P rest l Q (k + 1) a w = rest.wp P (Exit.jump l (jumpsG P rest l Q k) Q) a w := rfl
theorem wp_scope_unrollG {P : Program} {a : Act} {w : World} {Q : Exit → Act → World → Prop} {c rest : Code} (l n : Nat) (hf : findLabel c l = some rest)
    (first : c.wp P (Exit.jump l (jumpsG P rest l Q n) Q) a w) : (Code.scope c).wp P Q a w := by
  classical
  refine wp_scope_jumps l (fun a w => ∃ k, jumpsG P rest l Q k a w) (fun a w => if h : ∃ k, jumpsG P rest l Q k a w then Classical.choose (exists_minG h) else 0) hf (Code.wp_mono (Exit.jumpG_mono fun a w h => ⟨n, h⟩) first) ?_
  intro a w hJ
  have hmu : (if h : ∃ k, jumpsG P rest l Q k a w then Classical.choose (exists_minG h) else 0) = Classical.choose (exists_minG hJ) := dif_pos hJ
  rw [hmu]
  obtain ⟨h1, h2⟩ := Classical.choose_spec (exists_minG hJ)
  generalize Classical.choose (exists_minG hJ) = k at *
  cases k with
  | zero => exact h1.elim
  | succ k =>
    refine Code.wp_mono (Exit.jumpG_mono fun a' w' h => ⟨⟨k, h⟩, ?_⟩) h1
    have hex : ∃ k, jumpsG P rest l Q k a' w' := ⟨k, h⟩
    show (if h : ∃ k, jumpsG P rest l Q k a' w' then Classical.choose (exists_minG h) else 0) < k + 1
    rw [dif_pos hex]
    obtain ⟨h3, h4⟩ := Classical.choose_spec (exists_minG hex)
    rcases Nat.lt_or_ge (Classical.choose (exists_minG hex)) (k + 1) with h5 | h5
    · exact h5
    · exact absurd h (h4 k (by omega))
/-- what down leaves -/
def DnPost (own : Nat → Nat) (w : World) (b rb : Nat) (root : Int) (D : Int × Nat × Nat) (r : Ending) (w' : World) : Prop :=
  ∃ lf lv : Int, r = .returned (.int .i64 D.1) ∧ Step (· = 7) own w own w' ∧ GecAt w' b rb lf lv root ∧ (D.1 = 0 → lf = (D.2.1 : Int) ∧ lv = (D.2.2 : Int))
section
variable {own : Nat → Nat} {c rp n b0 : Nat} {m : Nat → Int} {w : World}
set_option maxHeartbeats 4000000 in
theorem wk_downG {b rb t2 a : Nat} {lf lv root : Int} (hM : MemAt ramK own c w rp (b0 * 4096) n m) (hc : c ≠ 7) (hR : Blk w rb 31 #[.pointer (some ⟨rp, 0, none⟩)]) (hB : GecAt w b rb lf lv root) (hob : own b = 7) (hor : own rb ≠ 7) (hbt2 : t2 < 18446744073709551616) (ha : a < 549755813888) :
    Calls Tryz.prog 118 #[.pointer (some ⟨b, 0, none⟩), .int .u64 (t2 : Int), .int .u64 (a : Int)] w (DnPost own w b rb root (dnG b0 n m a 2 t2)) := by
  have hn := hM.sizes.2.2
  have HBD := Lib.hid hM.bd
  have HI := Lib.hid (idx_G a (by omega))
  have HS : ∀ W : World, Step (· = 7) own w own W → MemAt ramK own c W rp (b0 * 4096) n m ∧ Blk W rb 31 #[.pointer (some ⟨rp, 0, none⟩)] := by
    intro W hS
    exact ⟨hM.step hS hc, hR.upd hS.upd hor⟩
  have HX := Lib.hid HS
  obtain ⟨D, hD⟩ : ∃ D, dnG b0 n m a 2 t2 = D := ⟨_, rfl⟩
  rw [hD]
  have HD := Lib.hid hD
  have H0 := Lib.hid hB
  clear hM hR HS hB hD
  go_enter Tryz.func118, Tryz.ntmps118
  have z2 := H0.out.frozen 2
  have y2 := H0.out.cells.2.2.1
  have hlt := H0.out.lt
  go_wp2
  refine wp_scope_unrollG (rest := ?rest) 0 (0 + 1 + 1) ?hf ?_
  rotate_left
  · rfl
  rotate_left
  go_wp2
  go_step3
  go_wp2_with fail
  have hst : Step (· = 7) own w own (w.setCell ⟨b, 2, none⟩ (.int .i64 2)) := ⟨(Upd.refl _ _).setCell (.inl hob) _, fun _ _ => rfl⟩
  have hBn : GecAt (w.setCell ⟨b, 2, none⟩ (.int .i64 2)) b rb lf 2 root := H0.out.set_ 2 (.int .i64 2)
  have HA := Lib.hid (And.intro hst hBn)
  clear hst hBn z2 y2 hlt H0
  generalize (w.setCell ⟨b, 2, none⟩ (.int .i64 2)) = wa at *
  -- level 2
  have hstd : Step (fun _ => False) own wa own wa.drew := (Step.refl _ _ _).drew
  have hSn := HA.out.1.trans (hstd.mono (C' := (· = 7)) (fun _ h => h.elim))
  have hBn : GecAt wa.drew b rb lf 2 root := HA.out.2.drew
  have HB := Lib.hid (And.intro hSn hBn)
  clear hstd hSn HA
  refine wpE_region (S := fun (W' : World) => GecAt W' b rb lf 2 root) (s := 19) (by kernel_rfl) ?_
  have hS : (fun (W' : World) => GecAt W' b rb lf 2 root) _ := hBn
  refine wpE_take (i := 0) (oi := { dst := some 13, op := Go.Op.move (Go.Operand.tmp 0), type := 208, pos := "stages.go:27", after := #[], guard := none }) (v := ?_) rfl (by kernel_rfl) (fun _ _ _ h => h) (Or.inl ⟨by rfl, fun W hW => ?_⟩) hS ?_
  rotate_left
  · (obtain ⟨hw1, hw2, hw3, hw4⟩ := GecAt.cells hW); go_simp; (try go_bits); (try rw [if_pos (by omega)]); (try with_reducible rfl)
  (try simp only [Act.put, List.setIfInBounds_toArray, List.set_cons_succ, List.set_cons_zero])
  refine wpE_take (i := 1) (oi := { dst := some 14, op := Go.Op.nilCheck (Go.Operand.tmp 13), type := 0, pos := "stages.go:27", after := #[{ on := 0, ground := Go.Ground.data }], guard := none }) (v := ?_) rfl (by kernel_rfl) (fun _ _ _ h => h) (Or.inl ⟨by rfl, fun W hW => ?_⟩) hS ?_
  rotate_left
  · (obtain ⟨hw1, hw2, hw3, hw4⟩ := GecAt.cells hW); go_simp; (try go_bits); (try rw [if_pos (by omega)]); (try with_reducible rfl)
  (try simp only [Act.put, List.setIfInBounds_toArray, List.set_cons_succ, List.set_cons_zero])
  refine wpE_take (i := 2) (oi := { dst := some 15, op := Go.Op.fieldAddr 185 (Go.Operand.tmp 14) 0, type := 0, pos := "stages.go:27", after := #[{ on := 1, ground := Go.Ground.data }], guard := none }) (v := ?_) rfl (by kernel_rfl) (fun _ _ _ h => h) (Or.inl ⟨by rfl, fun W hW => ?_⟩) hS ?_
  rotate_left
  · (obtain ⟨hw1, hw2, hw3, hw4⟩ := GecAt.cells hW); go_simp; (try go_bits); (try rw [if_pos (by omega)]); (try with_reducible rfl)
  (try simp only [Act.put, List.setIfInBounds_toArray, List.set_cons_succ, List.set_cons_zero])
  refine wpE_take (i := 3) (oi := { dst := some 16, op := Go.Op.load 182 (Go.Operand.tmp 15), type := 182, pos := "stages.go:27", after := #[{ on := 2, ground := Go.Ground.data }], guard := none }) (v := .func (.func 117) #[] #[.pointer (some ⟨rb, 0, none⟩)]) rfl (by kernel_rfl) (fun _ _ _ h => h) (Or.inl ⟨by rfl, fun W hW => ?_⟩) hS ?_
  · (obtain ⟨hw1, hw2, hw3, hw4⟩ := GecAt.cells hW); go_simp; (try go_bits); (try rw [if_pos (by omega)]); (try with_reducible rfl)
  (try simp only [Act.put, List.setIfInBounds_toArray, List.set_cons_succ, List.set_cons_zero])
  refine wpE_take (i := 4) (oi := { dst := some 17, op := Go.Op.move (Go.Operand.tmp 1), type := 23, pos := "stages.go:27", after := #[], guard := none }) (v := ?_) rfl (by kernel_rfl) (fun _ _ _ h => h) (Or.inl ⟨by rfl, fun W hW => ?_⟩) hS ?_
  rotate_left
  · (obtain ⟨hw1, hw2, hw3, hw4⟩ := GecAt.cells hW); go_simp; (try go_bits); (try rw [if_pos (by omega)]); (try with_reducible rfl)
  (try simp only [Act.put, List.setIfInBounds_toArray, List.set_cons_succ, List.set_cons_zero])
  refine wpE_take (i := 5) (oi := { dst := some 18, op := Go.Op.move (Go.Operand.tmp 2), type := 23, pos := "stages.go:27", after := #[], guard := none }) (v := ?_) rfl (by kernel_rfl) (fun _ _ _ h => h) (Or.inl ⟨by rfl, fun W hW => ?_⟩) hS ?_
  rotate_left
  · (obtain ⟨hw1, hw2, hw3, hw4⟩ := GecAt.cells hW); go_simp; (try go_bits); (try rw [if_pos (by omega)]); (try with_reducible rfl)
  (try simp only [Act.put, List.setIfInBounds_toArray, List.set_cons_succ, List.set_cons_zero])
  refine wpE_take (i := 6) (oi := { dst := some 19, op := Go.Op.move (Go.Operand.tmp 0), type := 208, pos := "stages.go:27", after := #[], guard := none }) (v := ?_) rfl (by kernel_rfl) (fun _ _ _ h => h) (Or.inl ⟨by rfl, fun W hW => ?_⟩) hS ?_
  rotate_left
  · (obtain ⟨hw1, hw2, hw3, hw4⟩ := GecAt.cells hW); go_simp; (try go_bits); (try rw [if_pos (by omega)]); (try with_reducible rfl)
  (try simp only [Act.put, List.setIfInBounds_toArray, List.set_cons_succ, List.set_cons_zero])
  refine wpE_take (i := 7) (oi := { dst := some 20, op := Go.Op.nilCheck (Go.Operand.tmp 19), type := 0, pos := "stages.go:27", after := #[{ on := 6, ground := Go.Ground.data }], guard := none }) (v := ?_) rfl (by kernel_rfl) (fun _ _ _ h => h) (Or.inl ⟨by rfl, fun W hW => ?_⟩) hS ?_
  rotate_left
  · (obtain ⟨hw1, hw2, hw3, hw4⟩ := GecAt.cells hW); go_simp; (try go_bits); (try rw [if_pos (by omega)]); (try with_reducible rfl)
  (try simp only [Act.put, List.setIfInBounds_toArray, List.set_cons_succ, List.set_cons_zero])
  refine wpE_take (i := 8) (oi := { dst := some 21, op := Go.Op.fieldAddr 185 (Go.Operand.tmp 20) 2, type := 0, pos := "stages.go:27", after := #[{ on := 7, ground := Go.Ground.data }], guard := none }) (v := ?_) rfl (by kernel_rfl) (fun _ _ _ h => h) (Or.inl ⟨by rfl, fun W hW => ?_⟩) hS ?_
  rotate_left
  · (obtain ⟨hw1, hw2, hw3, hw4⟩ := GecAt.cells hW); go_simp; (try go_bits); (try rw [if_pos (by omega)]); (try with_reducible rfl)
  (try simp only [Act.put, List.setIfInBounds_toArray, List.set_cons_succ, List.set_cons_zero])
  refine wpE_take (i := 9) (oi := { dst := some 22, op := Go.Op.load 3 (Go.Operand.tmp 21), type := 3, pos := "stages.go:27", after := #[{ on := 8, ground := Go.Ground.data }], guard := none }) (v := .int .i64 2) rfl (by kernel_rfl) (fun _ _ _ h => h) (Or.inl ⟨by rfl, fun W hW => ?_⟩) hS ?_
  · (obtain ⟨hw1, hw2, hw3, hw4⟩ := GecAt.cells hW); go_simp; (try go_bits); (try rw [if_pos (by omega)]); (try with_reducible rfl)
  (try simp only [Act.put, List.setIfInBounds_toArray, List.set_cons_succ, List.set_cons_zero])
  refine wpE_take (i := 10) (oi := { dst := some 23, op := Go.Op.binOp Go.BinOp.mul 3 (Go.Operand.const (Go.Value.int Go.IntKind.i64 9)) (Go.Operand.tmp 22) 3, type := 3, pos := "stages.go:27", after := #[{ on := 9, ground := Go.Ground.data }], guard := none }) (v := ?_) rfl (by kernel_rfl) (fun _ _ _ h => h) (Or.inl ⟨by rfl, fun W hW => ?_⟩) hS ?_
  rotate_left
  · (obtain ⟨hw1, hw2, hw3, hw4⟩ := GecAt.cells hW); go_simp; (try go_bits); (try rw [if_pos (by omega)]); (try with_reducible rfl)
  (try simp only [Act.put, List.setIfInBounds_toArray, List.set_cons_succ, List.set_cons_zero])
  refine wpE_take (i := 11) (oi := { dst := some 24, op := Go.Op.binOp Go.BinOp.add 3 (Go.Operand.const (Go.Value.int Go.IntKind.i64 12)) (Go.Operand.tmp 23) 3, type := 3, pos := "stages.go:27", after := #[{ on := 10, ground := Go.Ground.data }], guard := none }) (v := ?_) rfl (by kernel_rfl) (fun _ _ _ h => h) (Or.inl ⟨by rfl, fun W hW => ?_⟩) hS ?_
  rotate_left
  · (obtain ⟨hw1, hw2, hw3, hw4⟩ := GecAt.cells hW); go_simp; (try go_bits); (try rw [if_pos (by omega)]); (try with_reducible rfl)
  (try simp only [Act.put, List.setIfInBounds_toArray, List.set_cons_succ, List.set_cons_zero])
  refine wpE_take (i := 12) (oi := { dst := some 25, op := Go.Op.binOp Go.BinOp.shr 23 (Go.Operand.tmp 18) (Go.Operand.tmp 24) 3, type := 23, pos := "stages.go:27", after := #[{ on := 5, ground := Go.Ground.data }, { on := 11, ground := Go.Ground.data }], guard := none }) (v := .int .u64 ((a / 1073741824 : Nat) : Int)) rfl (by kernel_rfl) (fun _ _ _ h => h) (Or.inl ⟨by rfl, fun W hW => ?_⟩) hS ?_
  · (obtain ⟨hw1, hw2, hw3, hw4⟩ := GecAt.cells hW); go_simp; (try omega); (try trivial)
  (try simp only [Act.put, List.setIfInBounds_toArray, List.set_cons_succ, List.set_cons_zero])
  refine wpE_take (i := 13) (oi := { dst := some 26, op := Go.Op.binOp Go.BinOp.and 23 (Go.Operand.tmp 25) (Go.Operand.const (Go.Value.int Go.IntKind.u64 511)) 23, type := 23, pos := "stages.go:27", after := #[{ on := 12, ground := Go.Ground.data }], guard := none }) (v := .int .u64 ((a / 1073741824 % 512 : Nat) : Int)) rfl (by kernel_rfl) (fun _ _ _ h => h) (Or.inl ⟨by rfl, fun W hW => ?_⟩) hS ?_
  · (obtain ⟨hw1, hw2, hw3, hw4⟩ := GecAt.cells hW); go_simp; (try rw [show ((a : Int) / 1073741824) = ((a / 1073741824 : Nat) : Int) from by omega]); (try rw [HI.out.1]); (try omega)
  (try simp only [Act.put, List.setIfInBounds_toArray, List.set_cons_succ, List.set_cons_zero])
  refine wpE_only (i := 14) (oi := { dst := some 27, op := Go.Op.call { callee := Go.Callee.value (Go.Operand.tmp 16), args := #[Go.Operand.tmp 17, Go.Operand.tmp 26], argTypes := #[23, 23] }, type := 128, pos := "stages.go:27", after := #[{ on := 3, ground := Go.Ground.data }, { on := 4, ground := Go.Ground.data }, { on := 13, ground := Go.Ground.data }], guard := none }) rfl (by kernel_rfl) (by rfl) (fun K hK => ?_)
  go_simp
  (try rw [show ((a : Int) / 1073741824 % 512) = ((a / 1073741824 % 512 : Nat) : Int) from by omega])
  have hE := page_entryG (HX.out _ HB.out.1).1 rb (HX.out _ HB.out.1).2 t2 (a / 1073741824 % 512) hbt2 (by omega)
  refine hE.mono ?_; rintro r wb ⟨rfl, hUB⟩
  have hSB : Step (fun _ => False) own _ own wb := ⟨hUB, fun _ _ => rfl⟩
  have hSn := HB.out.1.trans (hSB.mono (C' := (· = 7)) (fun _ h => h.elim))
  have hS : GecAt wb b rb lf 2 root := hBn.upd hUB (fun h => h)
  have HC := Lib.hid (And.intro hSn hS)
  clear hE hUB hSB hSn hBn HB
  refine hK _ _ hS ?_; clear hK K
  (try simp only [Act.put, List.setIfInBounds_toArray, List.set_cons_succ, List.set_cons_zero])
  refine wpE_take (i := 15) (oi := { dst := some 12, op := Go.Op.move (Go.Operand.tmp 27), type := 128, pos := "stages.go:27", after := #[{ on := 14, ground := Go.Ground.data }], guard := none }) (v := ?_) rfl (by kernel_rfl) (fun _ _ _ h => h) (Or.inl ⟨by rfl, fun W hW => ?_⟩) hS ?_
  rotate_left
  · (obtain ⟨hw1, hw2, hw3, hw4⟩ := GecAt.cells hW); go_simp; (try go_bits); (try rw [if_pos (by omega)]); (try with_reducible rfl)
  (try simp only [Act.put, List.setIfInBounds_toArray, List.set_cons_succ, List.set_cons_zero])
  refine wpE_take (i := 16) (oi := { dst := some 28, op := Go.Op.extract (Go.Operand.tmp 12) 0, type := 23, pos := "stages.go:27", after := #[{ on := 15, ground := Go.Ground.data }], guard := none }) (v := ?_) rfl (by kernel_rfl) (fun _ _ _ h => h) (Or.inl ⟨by rfl, fun W hW => ?_⟩) hS ?_
  rotate_left
  · (obtain ⟨hw1, hw2, hw3, hw4⟩ := GecAt.cells hW); go_simp; (try go_bits); (try rw [if_pos (by omega)]); (try with_reducible rfl)
  (try simp only [Act.put, List.setIfInBounds_toArray, List.set_cons_succ, List.set_cons_zero])
  refine wpE_take (i := 17) (oi := { dst := some 29, op := Go.Op.extract (Go.Operand.tmp 12) 1, type := 3, pos := "stages.go:27", after := #[{ on := 15, ground := Go.Ground.data }, { on := 18, ground := Go.Ground.gcOnly Go.Departure.lateStores }], guard := none }) (v := ?_) rfl (by kernel_rfl) (fun _ _ _ h => h) (Or.inl ⟨by rfl, fun W hW => ?_⟩) hS ?_
  rotate_left
  · (obtain ⟨hw1, hw2, hw3, hw4⟩ := GecAt.cells hW); go_simp; (try go_bits); (try rw [if_pos (by omega)]); (try with_reducible rfl)
  (try simp only [Act.put, List.setIfInBounds_toArray, List.set_cons_succ, List.set_cons_zero])
  refine wpE_only (i := 18) (oi := { dst := some 7, op := Go.Op.assign (Go.Operand.tmp 28), type := 23, pos := "stages.go:27", after := #[{ on := 16, ground := Go.Ground.data }, { on := 14, ground := Go.Ground.chain }, { on := 0, ground := Go.Ground.phase }, { on := 1, ground := Go.Ground.phase }, { on := 2, ground := Go.Ground.phase }, { on := 3, ground := Go.Ground.phase }, { on := 4, ground := Go.Ground.phase }, { on := 5, ground := Go.Ground.phase }, { on := 6, ground := Go.Ground.phase }, { on := 7, ground := Go.Ground.phase }, { on := 8, ground := Go.Ground.phase }, { on := 9, ground := Go.Ground.phase }, { on := 10, ground := Go.Ground.phase }, { on := 11, ground := Go.Ground.phase }, { on := 12, ground := Go.Ground.phase }, { on := 13, ground := Go.Ground.phase }, { on := 14, ground := Go.Ground.phase }, { on := 15, ground := Go.Ground.phase }, { on := 16, ground := Go.Ground.phase }, { on := 17, ground := Go.Ground.textOnly Go.Departure.lateStores }], guard := none }) rfl (by kernel_rfl) (by rfl) (fun K hK => ?_)
  go_simp; (try go_bits); refine hK _ _ hS ?_; clear hK K
  (try simp only [Act.put, List.setIfInBounds_toArray, List.set_cons_succ, List.set_cons_zero])
  refine wpE_last (oi := { dst := some 8, op := Go.Op.assign (Go.Operand.tmp 29), type := 3, pos := "stages.go:27", after := #[{ on := 17, ground := Go.Ground.data }, { on := 18, ground := Go.Ground.chain }, { on := 0, ground := Go.Ground.phase }, { on := 1, ground := Go.Ground.phase }, { on := 2, ground := Go.Ground.phase }, { on := 3, ground := Go.Ground.phase }, { on := 4, ground := Go.Ground.phase }, { on := 5, ground := Go.Ground.phase }, { on := 6, ground := Go.Ground.phase }, { on := 7, ground := Go.Ground.phase }, { on := 8, ground := Go.Ground.phase }, { on := 9, ground := Go.Ground.phase }, { on := 10, ground := Go.Ground.phase }, { on := 11, ground := Go.Ground.phase }, { on := 12, ground := Go.Ground.phase }, { on := 13, ground := Go.Ground.phase }, { on := 14, ground := Go.Ground.phase }, { on := 15, ground := Go.Ground.phase }, { on := 16, ground := Go.Ground.phase }, { on := 17, ground := Go.Ground.phase }, { on := 18, ground := Go.Ground.phase }], guard := none }) rfl (by kernel_rfl) (by kernel_rfl) (by rfl) (fun K hK => ?_)
  go_simp; (try go_bits); refine hK _ _ ?_; clear hK K
  clear hS
  by_cases hin2 : outG b0 n t2
  · have hd := HD.out
    unfold dnG at hd
    rw [if_pos hin2] at hd
    have HDD := Lib.hid hd
    have h1 : (entR b0 n m t2 (a / 1073741824 % 512)).1 = 0 := by unfold entR; rw [if_pos hin2]
    have h2 : (entR b0 n m t2 (a / 1073741824 % 512)).2 = 3 := by unfold entR; rw [if_pos hin2]
    rw [h1, h2]
    clear h1 h2 hd
    go_wp2
    simp only [Exit.jump]
    go_ret
    exact ⟨_, _, by (rw [← HDD.out]; rfl), HC.out.1, HC.out.2, fun h => by rw [← HDD.out] at h; cases h⟩
  have h1 : (entR b0 n m t2 (a / 1073741824 % 512)).1 = ((ent m (t2 - b0) (a / 1073741824 % 512) : Nat) : Int) := by unfold entR; rw [if_neg hin2]
  have h2 : (entR b0 n m t2 (a / 1073741824 % 512)).2 = 0 := by unfold entR; rw [if_neg hin2]
  rw [h1, h2]
  have hd := HD.out
  unfold dnG at hd
  rw [if_neg hin2] at hd
  have he64 := ent_lt HBD.out (t2 - b0) (a / 1073741824 % 512)
  obtain ⟨e2, he2⟩ : ∃ e, ent m (t2 - b0) (a / 2 ^ 30 % 512) = e := ⟨_, rfl⟩
  rw [show (2 : Nat) ^ 30 = 1073741824 from rfl] at *
  rw [he2] at he64 hd ⊢
  clear h1 h2 he2 HD
  have HWr := Lib.hid (wrong_g e2 he64)
  have h10 := and10_g e2 he64
  have z1 := HC.out.2.frozen 1
  have z2 := HC.out.2.frozen 2
  have y1 := HC.out.2.cells.2.1
  have y2 := HC.out.2.cells.2.2.1
  have hlt := HC.out.2.lt
  go_wp2_with fail
  ((with_reducible refine (HWr.out _).mono ?_); rintro r wz ⟨rfl, rfl⟩)
  clear HWr
  obtain ⟨bad, hbad⟩ : ∃ bad, badE e2 = bad := ⟨_, rfl⟩
  rw [hbad] at hd ⊢
  obtain ⟨lfb, hlfb⟩ : ∃ q, leafE e2 = q := ⟨_, rfl⟩
  rw [hlfb] at hd h10
  clear hbad hlfb
  cases bad with
  | true =>
    rw [if_pos rfl] at hd
    have HDD := Lib.hid hd
    clear hd h10
    go_wp2
    simp only [Exit.jump]
    go_ret
    exact ⟨_, _, by (rw [← HDD.out]; rfl), HC.out.1, HC.out.2, fun h => by rw [← HDD.out] at h; cases h⟩
  | false =>
  rw [if_neg (by decide)] at hd
  cases lfb with
  | true =>
    rw [if_pos rfl] at hd
    have hmm := misM2 e2 he64
    obtain ⟨mb, hmb⟩ : ∃ q, misE e2 2 = q := ⟨_, rfl⟩
    rw [hmb] at hd hmm
    clear hmb
    cases mb with
    | true =>
      rw [if_pos rfl] at hd
      have HDD := Lib.hid hd
      clear hd
      go_wp2
      simp only [Exit.jump]
      go_ret
      exact ⟨_, _, by (rw [← HDD.out]; rfl), HC.out.1.trans ⟨(Upd.refl _ _).setCell (.inl hob) _, fun _ _ => rfl⟩, HC.out.2.set_ 1 (.int .u64 (e2 : Int)), fun h => by rw [← HDD.out] at h; cases h⟩
    | false =>
      rw [if_neg (by decide)] at hd
      have HDD := Lib.hid hd
      clear hd
      go_wp2
      simp only [Exit.jump]
      go_ret
      exact ⟨_, _, by (rw [← HDD.out]; rfl), HC.out.1.trans ⟨(Upd.refl _ _).setCell (.inl hob) _, fun _ _ => rfl⟩, HC.out.2.set_ 1 (.int .u64 (e2 : Int)), fun h => by rw [← HDD.out]; exact ⟨rfl, rfl⟩⟩
  | false =>
  rw [if_neg (by decide)] at hd
  have hnx := nxt_g e2 he64
  have hnl := nxt_lt e2
  obtain ⟨t1, hte⟩ : ∃ q, nxtE e2 = q := ⟨_, rfl⟩
  rw [hte] at hd hnx hnl
  have hbt1 : t1 < 18446744073709551616 := by omega
  have HD := Lib.hid hd
  clear hd hte hnl
  go_wp2
  go_step3
  refine ⟨rfl, ?_⟩
  rw [jumpsG_succ]
  have hst : Step (· = 7) own wb own (wb.setCell ⟨b, 2, none⟩ (.int .i64 1)) := ⟨(Upd.refl _ _).setCell (.inl hob) _, fun _ _ => rfl⟩
  have hBn : GecAt (wb.setCell ⟨b, 2, none⟩ (.int .i64 1)) b rb lf 1 root := HC.out.2.set_ 2 (.int .i64 1)
  have HA := Lib.hid (And.intro (HC.out.1.trans hst) hBn)
  clear hst hBn z1 z2 y1 y2 hlt HC h10 hnx he64
  generalize (wb.setCell ⟨b, 2, none⟩ (.int .i64 1)) = wa at *
  go_wp2_with fail
  -- level 1
  have hstd : Step (fun _ => False) own wa own wa.drew := (Step.refl _ _ _).drew
  have hSn := HA.out.1.trans (hstd.mono (C' := (· = 7)) (fun _ h => h.elim))
  have hBn : GecAt wa.drew b rb lf 1 root := HA.out.2.drew
  have HB := Lib.hid (And.intro hSn hBn)
  clear hstd hSn HA
  refine wpE_region (S := fun (W' : World) => GecAt W' b rb lf 1 root) (s := 19) (by kernel_rfl) ?_
  have hS : (fun (W' : World) => GecAt W' b rb lf 1 root) _ := hBn
  refine wpE_take (i := 0) (oi := { dst := some 13, op := Go.Op.move (Go.Operand.tmp 0), type := 208, pos := "stages.go:27", after := #[], guard := none }) (v := ?_) rfl (by kernel_rfl) (fun _ _ _ h => h) (Or.inl ⟨by rfl, fun W hW => ?_⟩) hS ?_
  rotate_left
  · (obtain ⟨hw1, hw2, hw3, hw4⟩ := GecAt.cells hW); go_simp; (try go_bits); (try rw [if_pos (by omega)]); (try with_reducible rfl)
  (try simp only [Act.put, List.setIfInBounds_toArray, List.set_cons_succ, List.set_cons_zero])
  refine wpE_take (i := 1) (oi := { dst := some 14, op := Go.Op.nilCheck (Go.Operand.tmp 13), type := 0, pos := "stages.go:27", after := #[{ on := 0, ground := Go.Ground.data }], guard := none }) (v := ?_) rfl (by kernel_rfl) (fun _ _ _ h => h) (Or.inl ⟨by rfl, fun W hW => ?_⟩) hS ?_
  rotate_left
  · (obtain ⟨hw1, hw2, hw3, hw4⟩ := GecAt.cells hW); go_simp; (try go_bits); (try rw [if_pos (by omega)]); (try with_reducible rfl)
  (try simp only [Act.put, List.setIfInBounds_toArray, List.set_cons_succ, List.set_cons_zero])
  refine wpE_take (i := 2) (oi := { dst := some 15, op := Go.Op.fieldAddr 185 (Go.Operand.tmp 14) 0, type := 0, pos := "stages.go:27", after := #[{ on := 1, ground := Go.Ground.data }], guard := none }) (v := ?_) rfl (by kernel_rfl) (fun _ _ _ h => h) (Or.inl ⟨by rfl, fun W hW => ?_⟩) hS ?_
  rotate_left
  · (obtain ⟨hw1, hw2, hw3, hw4⟩ := GecAt.cells hW); go_simp; (try go_bits); (try rw [if_pos (by omega)]); (try with_reducible rfl)
  (try simp only [Act.put, List.setIfInBounds_toArray, List.set_cons_succ, List.set_cons_zero])
  refine wpE_take (i := 3) (oi := { dst := some 16, op := Go.Op.load 182 (Go.Operand.tmp 15), type := 182, pos := "stages.go:27", after := #[{ on := 2, ground := Go.Ground.data }], guard := none }) (v := .func (.func 117) #[] #[.pointer (some ⟨rb, 0, none⟩)]) rfl (by kernel_rfl) (fun _ _ _ h => h) (Or.inl ⟨by rfl, fun W hW => ?_⟩) hS ?_
  · (obtain ⟨hw1, hw2, hw3, hw4⟩ := GecAt.cells hW); go_simp; (try go_bits); (try rw [if_pos (by omega)]); (try with_reducible rfl)
  (try simp only [Act.put, List.setIfInBounds_toArray, List.set_cons_succ, List.set_cons_zero])
  refine wpE_take (i := 4) (oi := { dst := some 17, op := Go.Op.move (Go.Operand.tmp 1), type := 23, pos := "stages.go:27", after := #[], guard := none }) (v := ?_) rfl (by kernel_rfl) (fun _ _ _ h => h) (Or.inl ⟨by rfl, fun W hW => ?_⟩) hS ?_
  rotate_left
  · (obtain ⟨hw1, hw2, hw3, hw4⟩ := GecAt.cells hW); go_simp; (try go_bits); (try rw [if_pos (by omega)]); (try with_reducible rfl)
  (try simp only [Act.put, List.setIfInBounds_toArray, List.set_cons_succ, List.set_cons_zero])
  refine wpE_take (i := 5) (oi := { dst := some 18, op := Go.Op.move (Go.Operand.tmp 2), type := 23, pos := "stages.go:27", after := #[], guard := none }) (v := ?_) rfl (by kernel_rfl) (fun _ _ _ h => h) (Or.inl ⟨by rfl, fun W hW => ?_⟩) hS ?_
  rotate_left
  · (obtain ⟨hw1, hw2, hw3, hw4⟩ := GecAt.cells hW); go_simp; (try go_bits); (try rw [if_pos (by omega)]); (try with_reducible rfl)
  (try simp only [Act.put, List.setIfInBounds_toArray, List.set_cons_succ, List.set_cons_zero])
  refine wpE_take (i := 6) (oi := { dst := some 19, op := Go.Op.move (Go.Operand.tmp 0), type := 208, pos := "stages.go:27", after := #[], guard := none }) (v := ?_) rfl (by kernel_rfl) (fun _ _ _ h => h) (Or.inl ⟨by rfl, fun W hW => ?_⟩) hS ?_
  rotate_left
  · (obtain ⟨hw1, hw2, hw3, hw4⟩ := GecAt.cells hW); go_simp; (try go_bits); (try rw [if_pos (by omega)]); (try with_reducible rfl)
  (try simp only [Act.put, List.setIfInBounds_toArray, List.set_cons_succ, List.set_cons_zero])
  refine wpE_take (i := 7) (oi := { dst := some 20, op := Go.Op.nilCheck (Go.Operand.tmp 19), type := 0, pos := "stages.go:27", after := #[{ on := 6, ground := Go.Ground.data }], guard := none }) (v := ?_) rfl (by kernel_rfl) (fun _ _ _ h => h) (Or.inl ⟨by rfl, fun W hW => ?_⟩) hS ?_
  rotate_left
  · (obtain ⟨hw1, hw2, hw3, hw4⟩ := GecAt.cells hW); go_simp; (try go_bits); (try rw [if_pos (by omega)]); (try with_reducible rfl)
  (try simp only [Act.put, List.setIfInBounds_toArray, List.set_cons_succ, List.set_cons_zero])
  refine wpE_take (i := 8) (oi := { dst := some 21, op := Go.Op.fieldAddr 185 (Go.Operand.tmp 20) 2, type := 0, pos := "stages.go:27", after := #[{ on := 7, ground := Go.Ground.data }], guard := none }) (v := ?_) rfl (by kernel_rfl) (fun _ _ _ h => h) (Or.inl ⟨by rfl, fun W hW => ?_⟩) hS ?_
  rotate_left
  · (obtain ⟨hw1, hw2, hw3, hw4⟩ := GecAt.cells hW); go_simp; (try go_bits); (try rw [if_pos (by omega)]); (try with_reducible rfl)
  (try simp only [Act.put, List.setIfInBounds_toArray, List.set_cons_succ, List.set_cons_zero])
  refine wpE_take (i := 9) (oi := { dst := some 22, op := Go.Op.load 3 (Go.Operand.tmp 21), type := 3, pos := "stages.go:27", after := #[{ on := 8, ground := Go.Ground.data }], guard := none }) (v := .int .i64 1) rfl (by kernel_rfl) (fun _ _ _ h => h) (Or.inl ⟨by rfl, fun W hW => ?_⟩) hS ?_
  · (obtain ⟨hw1, hw2, hw3, hw4⟩ := GecAt.cells hW); go_simp; (try go_bits); (try rw [if_pos (by omega)]); (try with_reducible rfl)
  (try simp only [Act.put, List.setIfInBounds_toArray, List.set_cons_succ, List.set_cons_zero])
  refine wpE_take (i := 10) (oi := { dst := some 23, op := Go.Op.binOp Go.BinOp.mul 3 (Go.Operand.const (Go.Value.int Go.IntKind.i64 9)) (Go.Operand.tmp 22) 3, type := 3, pos := "stages.go:27", after := #[{ on := 9, ground := Go.Ground.data }], guard := none }) (v := ?_) rfl (by kernel_rfl) (fun _ _ _ h => h) (Or.inl ⟨by rfl, fun W hW => ?_⟩) hS ?_
  rotate_left
  · (obtain ⟨hw1, hw2, hw3, hw4⟩ := GecAt.cells hW); go_simp; (try go_bits); (try rw [if_pos (by omega)]); (try with_reducible rfl)
  (try simp only [Act.put, List.setIfInBounds_toArray, List.set_cons_succ, List.set_cons_zero])
  refine wpE_take (i := 11) (oi := { dst := some 24, op := Go.Op.binOp Go.BinOp.add 3 (Go.Operand.const (Go.Value.int Go.IntKind.i64 12)) (Go.Operand.tmp 23) 3, type := 3, pos := "stages.go:27", after := #[{ on := 10, ground := Go.Ground.data }], guard := none }) (v := ?_) rfl (by kernel_rfl) (fun _ _ _ h => h) (Or.inl ⟨by rfl, fun W hW => ?_⟩) hS ?_
  rotate_left
  · (obtain ⟨hw1, hw2, hw3, hw4⟩ := GecAt.cells hW); go_simp; (try go_bits); (try rw [if_pos (by omega)]); (try with_reducible rfl)
  (try simp only [Act.put, List.setIfInBounds_toArray, List.set_cons_succ, List.set_cons_zero])
  refine wpE_take (i := 12) (oi := { dst := some 25, op := Go.Op.binOp Go.BinOp.shr 23 (Go.Operand.tmp 18) (Go.Operand.tmp 24) 3, type := 23, pos := "stages.go:27", after := #[{ on := 5, ground := Go.Ground.data }, { on := 11, ground := Go.Ground.data }], guard := none }) (v := .int .u64 ((a / 2097152 : Nat) : Int)) rfl (by kernel_rfl) (fun _ _ _ h => h) (Or.inl ⟨by rfl, fun W hW => ?_⟩) hS ?_
  · (obtain ⟨hw1, hw2, hw3, hw4⟩ := GecAt.cells hW); go_simp; (try omega); (try trivial)
  (try simp only [Act.put, List.setIfInBounds_toArray, List.set_cons_succ, List.set_cons_zero])
  refine wpE_take (i := 13) (oi := { dst := some 26, op := Go.Op.binOp Go.BinOp.and 23 (Go.Operand.tmp 25) (Go.Operand.const (Go.Value.int Go.IntKind.u64 511)) 23, type := 23, pos := "stages.go:27", after := #[{ on := 12, ground := Go.Ground.data }], guard := none }) (v := .int .u64 ((a / 2097152 % 512 : Nat) : Int)) rfl (by kernel_rfl) (fun _ _ _ h => h) (Or.inl ⟨by rfl, fun W hW => ?_⟩) hS ?_
  · (obtain ⟨hw1, hw2, hw3, hw4⟩ := GecAt.cells hW); go_simp; (try rw [show ((a : Int) / 2097152) = ((a / 2097152 : Nat) : Int) from by omega]); (try rw [HI.out.2.1]); (try omega)
  (try simp only [Act.put, List.setIfInBounds_toArray, List.set_cons_succ, List.set_cons_zero])
  refine wpE_only (i := 14) (oi := { dst := some 27, op := Go.Op.call { callee := Go.Callee.value (Go.Operand.tmp 16), args := #[Go.Operand.tmp 17, Go.Operand.tmp 26], argTypes := #[23, 23] }, type := 128, pos := "stages.go:27", after := #[{ on := 3, ground := Go.Ground.data }, { on := 4, ground := Go.Ground.data }, { on := 13, ground := Go.Ground.data }], guard := none }) rfl (by kernel_rfl) (by rfl) (fun K hK => ?_)
  go_simp
  (try rw [show ((a : Int) / 2097152 % 512) = ((a / 2097152 % 512 : Nat) : Int) from by omega])
  have hE := page_entryG (HX.out _ HB.out.1).1 rb (HX.out _ HB.out.1).2 t1 (a / 2097152 % 512) hbt1 (by omega)
  refine hE.mono ?_; rintro r wb ⟨rfl, hUB⟩
  have hSB : Step (fun _ => False) own _ own wb := ⟨hUB, fun _ _ => rfl⟩
  have hSn := HB.out.1.trans (hSB.mono (C' := (· = 7)) (fun _ h => h.elim))
  have hS : GecAt wb b rb lf 1 root := hBn.upd hUB (fun h => h)
  have HC := Lib.hid (And.intro hSn hS)
  clear hE hUB hSB hSn hBn HB
  refine hK _ _ hS ?_; clear hK K
  (try simp only [Act.put, List.setIfInBounds_toArray, List.set_cons_succ, List.set_cons_zero])
  refine wpE_take (i := 15) (oi := { dst := some 12, op := Go.Op.move (Go.Operand.tmp 27), type := 128, pos := "stages.go:27", after := #[{ on := 14, ground := Go.Ground.data }], guard := none }) (v := ?_) rfl (by kernel_rfl) (fun _ _ _ h => h) (Or.inl ⟨by rfl, fun W hW => ?_⟩) hS ?_
  rotate_left
  · (obtain ⟨hw1, hw2, hw3, hw4⟩ := GecAt.cells hW); go_simp; (try go_bits); (try rw [if_pos (by omega)]); (try with_reducible rfl)
  (try simp only [Act.put, List.setIfInBounds_toArray, List.set_cons_succ, List.set_cons_zero])
  refine wpE_take (i := 16) (oi := { dst := some 28, op := Go.Op.extract (Go.Operand.tmp 12) 0, type := 23, pos := "stages.go:27", after := #[{ on := 15, ground := Go.Ground.data }], guard := none }) (v := ?_) rfl (by kernel_rfl) (fun _ _ _ h => h) (Or.inl ⟨by rfl, fun W hW => ?_⟩) hS ?_
  rotate_left
  · (obtain ⟨hw1, hw2, hw3, hw4⟩ := GecAt.cells hW); go_simp; (try go_bits); (try rw [if_pos (by omega)]); (try with_reducible rfl)
  (try simp only [Act.put, List.setIfInBounds_toArray, List.set_cons_succ, List.set_cons_zero])
  refine wpE_take (i := 17) (oi := { dst := some 29, op := Go.Op.extract (Go.Operand.tmp 12) 1, type := 3, pos := "stages.go:27", after := #[{ on := 15, ground := Go.Ground.data }, { on := 18, ground := Go.Ground.gcOnly Go.Departure.lateStores }], guard := none }) (v := ?_) rfl (by kernel_rfl) (fun _ _ _ h => h) (Or.inl ⟨by rfl, fun W hW => ?_⟩) hS ?_
  rotate_left
  · (obtain ⟨hw1, hw2, hw3, hw4⟩ := GecAt.cells hW); go_simp; (try go_bits); (try rw [if_pos (by omega)]); (try with_reducible rfl)
  (try simp only [Act.put, List.setIfInBounds_toArray, List.set_cons_succ, List.set_cons_zero])
  refine wpE_only (i := 18) (oi := { dst := some 7, op := Go.Op.assign (Go.Operand.tmp 28), type := 23, pos := "stages.go:27", after := #[{ on := 16, ground := Go.Ground.data }, { on := 14, ground := Go.Ground.chain }, { on := 0, ground := Go.Ground.phase }, { on := 1, ground := Go.Ground.phase }, { on := 2, ground := Go.Ground.phase }, { on := 3, ground := Go.Ground.phase }, { on := 4, ground := Go.Ground.phase }, { on := 5, ground := Go.Ground.phase }, { on := 6, ground := Go.Ground.phase }, { on := 7, ground := Go.Ground.phase }, { on := 8, ground := Go.Ground.phase }, { on := 9, ground := Go.Ground.phase }, { on := 10, ground := Go.Ground.phase }, { on := 11, ground := Go.Ground.phase }, { on := 12, ground := Go.Ground.phase }, { on := 13, ground := Go.Ground.phase }, { on := 14, ground := Go.Ground.phase }, { on := 15, ground := Go.Ground.phase }, { on := 16, ground := Go.Ground.phase }, { on := 17, ground := Go.Ground.textOnly Go.Departure.lateStores }], guard := none }) rfl (by kernel_rfl) (by rfl) (fun K hK => ?_)
  go_simp; (try go_bits); refine hK _ _ hS ?_; clear hK K
  (try simp only [Act.put, List.setIfInBounds_toArray, List.set_cons_succ, List.set_cons_zero])
  refine wpE_last (oi := { dst := some 8, op := Go.Op.assign (Go.Operand.tmp 29), type := 3, pos := "stages.go:27", after := #[{ on := 17, ground := Go.Ground.data }, { on := 18, ground := Go.Ground.chain }, { on := 0, ground := Go.Ground.phase }, { on := 1, ground := Go.Ground.phase }, { on := 2, ground := Go.Ground.phase }, { on := 3, ground := Go.Ground.phase }, { on := 4, ground := Go.Ground.phase }, { on := 5, ground := Go.Ground.phase }, { on := 6, ground := Go.Ground.phase }, { on := 7, ground := Go.Ground.phase }, { on := 8, ground := Go.Ground.phase }, { on := 9, ground := Go.Ground.phase }, { on := 10, ground := Go.Ground.phase }, { on := 11, ground := Go.Ground.phase }, { on := 12, ground := Go.Ground.phase }, { on := 13, ground := Go.Ground.phase }, { on := 14, ground := Go.Ground.phase }, { on := 15, ground := Go.Ground.phase }, { on := 16, ground := Go.Ground.phase }, { on := 17, ground := Go.Ground.phase }, { on := 18, ground := Go.Ground.phase }], guard := none }) rfl (by kernel_rfl) (by kernel_rfl) (by rfl) (fun K hK => ?_)
  go_simp; (try go_bits); refine hK _ _ ?_; clear hK K
  clear hS
  by_cases hin1 : outG b0 n t1
  · have hd := HD.out
    unfold dnG at hd
    rw [if_pos hin1] at hd
    have HDD := Lib.hid hd
    have h1 : (entR b0 n m t1 (a / 2097152 % 512)).1 = 0 := by unfold entR; rw [if_pos hin1]
    have h2 : (entR b0 n m t1 (a / 2097152 % 512)).2 = 3 := by unfold entR; rw [if_pos hin1]
    rw [h1, h2]
    clear h1 h2 hd
    go_wp2
    simp only [Exit.jump]
    go_ret
    exact ⟨_, _, by (rw [← HDD.out]; rfl), HC.out.1, HC.out.2, fun h => by rw [← HDD.out] at h; cases h⟩
  have h1 : (entR b0 n m t1 (a / 2097152 % 512)).1 = ((ent m (t1 - b0) (a / 2097152 % 512) : Nat) : Int) := by unfold entR; rw [if_neg hin1]
  have h2 : (entR b0 n m t1 (a / 2097152 % 512)).2 = 0 := by unfold entR; rw [if_neg hin1]
  rw [h1, h2]
  have hd := HD.out
  unfold dnG at hd
  rw [if_neg hin1] at hd
  have he64 := ent_lt HBD.out (t1 - b0) (a / 2097152 % 512)
  obtain ⟨e1, he1⟩ : ∃ e, ent m (t1 - b0) (a / 2 ^ 21 % 512) = e := ⟨_, rfl⟩
  rw [show (2 : Nat) ^ 21 = 2097152 from rfl] at *
  rw [he1] at he64 hd ⊢
  clear h1 h2 he1 HD
  have HWr := Lib.hid (wrong_g e1 he64)
  have h10 := and10_g e1 he64
  have z1 := HC.out.2.frozen 1
  have z2 := HC.out.2.frozen 2
  have y1 := HC.out.2.cells.2.1
  have y2 := HC.out.2.cells.2.2.1
  have hlt := HC.out.2.lt
  go_wp2_with fail
  ((with_reducible refine (HWr.out _).mono ?_); rintro r wz ⟨rfl, rfl⟩)
  clear HWr
  obtain ⟨bad, hbad⟩ : ∃ bad, badE e1 = bad := ⟨_, rfl⟩
  rw [hbad] at hd ⊢
  obtain ⟨lfb, hlfb⟩ : ∃ q, leafE e1 = q := ⟨_, rfl⟩
  rw [hlfb] at hd h10
  clear hbad hlfb
  cases bad with
  | true =>
    rw [if_pos rfl] at hd
    have HDD := Lib.hid hd
    clear hd h10
    go_wp2
    simp only [Exit.jump]
    go_ret
    exact ⟨_, _, by (rw [← HDD.out]; rfl), HC.out.1, HC.out.2, fun h => by rw [← HDD.out] at h; cases h⟩
  | false =>
  rw [if_neg (by decide)] at hd
  cases lfb with
  | true =>
    rw [if_pos rfl] at hd
    have hmm := misM1 e1 he64
    obtain ⟨mb, hmb⟩ : ∃ q, misE e1 1 = q := ⟨_, rfl⟩
    rw [hmb] at hd hmm
    clear hmb
    cases mb with
    | true =>
      rw [if_pos rfl] at hd
      have HDD := Lib.hid hd
      clear hd
      go_wp2
      simp only [Exit.jump]
      go_ret
      exact ⟨_, _, by (rw [← HDD.out]; rfl), HC.out.1.trans ⟨(Upd.refl _ _).setCell (.inl hob) _, fun _ _ => rfl⟩, HC.out.2.set_ 1 (.int .u64 (e1 : Int)), fun h => by rw [← HDD.out] at h; cases h⟩
    | false =>
      rw [if_neg (by decide)] at hd
      have HDD := Lib.hid hd
      clear hd
      go_wp2
      simp only [Exit.jump]
      go_ret
      exact ⟨_, _, by (rw [← HDD.out]; rfl), HC.out.1.trans ⟨(Upd.refl _ _).setCell (.inl hob) _, fun _ _ => rfl⟩, HC.out.2.set_ 1 (.int .u64 (e1 : Int)), fun h => by rw [← HDD.out]; exact ⟨rfl, rfl⟩⟩
  | false =>
  rw [if_neg (by decide)] at hd
  have hnx := nxt_g e1 he64
  have hnl := nxt_lt e1
  obtain ⟨t0, hte⟩ : ∃ q, nxtE e1 = q := ⟨_, rfl⟩
  rw [hte] at hd hnx hnl
  have hbt0 : t0 < 18446744073709551616 := by omega
  have HD := Lib.hid hd
  clear hd hte hnl
  go_wp2
  go_step3
  refine ⟨rfl, ?_⟩
  rw [jumpsG_succ]
  have hst : Step (· = 7) own wb own (wb.setCell ⟨b, 2, none⟩ (.int .i64 0)) := ⟨(Upd.refl _ _).setCell (.inl hob) _, fun _ _ => rfl⟩
  have hBn : GecAt (wb.setCell ⟨b, 2, none⟩ (.int .i64 0)) b rb lf 0 root := HC.out.2.set_ 2 (.int .i64 0)
  have HA := Lib.hid (And.intro (HC.out.1.trans hst) hBn)
  clear hst hBn z1 z2 y1 y2 hlt HC h10 hnx he64
  generalize (wb.setCell ⟨b, 2, none⟩ (.int .i64 0)) = wa at *
  go_wp2_with fail
  -- level 0
  have hstd : Step (fun _ => False) own wa own wa.drew := (Step.refl _ _ _).drew
  have hSn := HA.out.1.trans (hstd.mono (C' := (· = 7)) (fun _ h => h.elim))
  have hBn : GecAt wa.drew b rb lf 0 root := HA.out.2.drew
  have HB := Lib.hid (And.intro hSn hBn)
  clear hstd hSn HA
  refine wpE_region (S := fun (W' : World) => GecAt W' b rb lf 0 root) (s := 19) (by kernel_rfl) ?_
  have hS : (fun (W' : World) => GecAt W' b rb lf 0 root) _ := hBn
  refine wpE_take (i := 0) (oi := { dst := some 13, op := Go.Op.move (Go.Operand.tmp 0), type := 208, pos := "stages.go:27", after := #[], guard := none }) (v := ?_) rfl (by kernel_rfl) (fun _ _ _ h => h) (Or.inl ⟨by rfl, fun W hW => ?_⟩) hS ?_
  rotate_left
  · (obtain ⟨hw1, hw2, hw3, hw4⟩ := GecAt.cells hW); go_simp; (try go_bits); (try rw [if_pos (by omega)]); (try with_reducible rfl)
  (try simp only [Act.put, List.setIfInBounds_toArray, List.set_cons_succ, List.set_cons_zero])
  refine wpE_take (i := 1) (oi := { dst := some 14, op := Go.Op.nilCheck (Go.Operand.tmp 13), type := 0, pos := "stages.go:27", after := #[{ on := 0, ground := Go.Ground.data }], guard := none }) (v := ?_) rfl (by kernel_rfl) (fun _ _ _ h => h) (Or.inl ⟨by rfl, fun W hW => ?_⟩) hS ?_
  rotate_left
  · (obtain ⟨hw1, hw2, hw3, hw4⟩ := GecAt.cells hW); go_simp; (try go_bits); (try rw [if_pos (by omega)]); (try with_reducible rfl)
  (try simp only [Act.put, List.setIfInBounds_toArray, List.set_cons_succ, List.set_cons_zero])
  refine wpE_take (i := 2) (oi := { dst := some 15, op := Go.Op.fieldAddr 185 (Go.Operand.tmp 14) 0, type := 0, pos := "stages.go:27", after := #[{ on := 1, ground := Go.Ground.data }], guard := none }) (v := ?_) rfl (by kernel_rfl) (fun _ _ _ h => h) (Or.inl ⟨by rfl, fun W hW => ?_⟩) hS ?_
  rotate_left
  · (obtain ⟨hw1, hw2, hw3, hw4⟩ := GecAt.cells hW); go_simp; (try go_bits); (try rw [if_pos (by omega)]); (try with_reducible rfl)
  (try simp only [Act.put, List.setIfInBounds_toArray, List.set_cons_succ, List.set_cons_zero])
  refine wpE_take (i := 3) (oi := { dst := some 16, op := Go.Op.load 182 (Go.Operand.tmp 15), type := 182, pos := "stages.go:27", after := #[{ on := 2, ground := Go.Ground.data }], guard := none }) (v := .func (.func 117) #[] #[.pointer (some ⟨rb, 0, none⟩)]) rfl (by kernel_rfl) (fun _ _ _ h => h) (Or.inl ⟨by rfl, fun W hW => ?_⟩) hS ?_
  · (obtain ⟨hw1, hw2, hw3, hw4⟩ := GecAt.cells hW); go_simp; (try go_bits); (try rw [if_pos (by omega)]); (try with_reducible rfl)
  (try simp only [Act.put, List.setIfInBounds_toArray, List.set_cons_succ, List.set_cons_zero])
  refine wpE_take (i := 4) (oi := { dst := some 17, op := Go.Op.move (Go.Operand.tmp 1), type := 23, pos := "stages.go:27", after := #[], guard := none }) (v := ?_) rfl (by kernel_rfl) (fun _ _ _ h => h) (Or.inl ⟨by rfl, fun W hW => ?_⟩) hS ?_
  rotate_left
  · (obtain ⟨hw1, hw2, hw3, hw4⟩ := GecAt.cells hW); go_simp; (try go_bits); (try rw [if_pos (by omega)]); (try with_reducible rfl)
  (try simp only [Act.put, List.setIfInBounds_toArray, List.set_cons_succ, List.set_cons_zero])
  refine wpE_take (i := 5) (oi := { dst := some 18, op := Go.Op.move (Go.Operand.tmp 2), type := 23, pos := "stages.go:27", after := #[], guard := none }) (v := ?_) rfl (by kernel_rfl) (fun _ _ _ h => h) (Or.inl ⟨by rfl, fun W hW => ?_⟩) hS ?_
  rotate_left
  · (obtain ⟨hw1, hw2, hw3, hw4⟩ := GecAt.cells hW); go_simp; (try go_bits); (try rw [if_pos (by omega)]); (try with_reducible rfl)
  (try simp only [Act.put, List.setIfInBounds_toArray, List.set_cons_succ, List.set_cons_zero])
  refine wpE_take (i := 6) (oi := { dst := some 19, op := Go.Op.move (Go.Operand.tmp 0), type := 208, pos := "stages.go:27", after := #[], guard := none }) (v := ?_) rfl (by kernel_rfl) (fun _ _ _ h => h) (Or.inl ⟨by rfl, fun W hW => ?_⟩) hS ?_
  rotate_left
  · (obtain ⟨hw1, hw2, hw3, hw4⟩ := GecAt.cells hW); go_simp; (try go_bits); (try rw [if_pos (by omega)]); (try with_reducible rfl)
  (try simp only [Act.put, List.setIfInBounds_toArray, List.set_cons_succ, List.set_cons_zero])
  refine wpE_take (i := 7) (oi := { dst := some 20, op := Go.Op.nilCheck (Go.Operand.tmp 19), type := 0, pos := "stages.go:27", after := #[{ on := 6, ground := Go.Ground.data }], guard := none }) (v := ?_) rfl (by kernel_rfl) (fun _ _ _ h => h) (Or.inl ⟨by rfl, fun W hW => ?_⟩) hS ?_
  rotate_left
  · (obtain ⟨hw1, hw2, hw3, hw4⟩ := GecAt.cells hW); go_simp; (try go_bits); (try rw [if_pos (by omega)]); (try with_reducible rfl)
  (try simp only [Act.put, List.setIfInBounds_toArray, List.set_cons_succ, List.set_cons_zero])
  refine wpE_take (i := 8) (oi := { dst := some 21, op := Go.Op.fieldAddr 185 (Go.Operand.tmp 20) 2, type := 0, pos := "stages.go:27", after := #[{ on := 7, ground := Go.Ground.data }], guard := none }) (v := ?_) rfl (by kernel_rfl) (fun _ _ _ h => h) (Or.inl ⟨by rfl, fun W hW => ?_⟩) hS ?_
  rotate_left
  · (obtain ⟨hw1, hw2, hw3, hw4⟩ := GecAt.cells hW); go_simp; (try go_bits); (try rw [if_pos (by omega)]); (try with_reducible rfl)
  (try simp only [Act.put, List.setIfInBounds_toArray, List.set_cons_succ, List.set_cons_zero])
  refine wpE_take (i := 9) (oi := { dst := some 22, op := Go.Op.load 3 (Go.Operand.tmp 21), type := 3, pos := "stages.go:27", after := #[{ on := 8, ground := Go.Ground.data }], guard := none }) (v := .int .i64 0) rfl (by kernel_rfl) (fun _ _ _ h => h) (Or.inl ⟨by rfl, fun W hW => ?_⟩) hS ?_
  · (obtain ⟨hw1, hw2, hw3, hw4⟩ := GecAt.cells hW); go_simp; (try go_bits); (try rw [if_pos (by omega)]); (try with_reducible rfl)
  (try simp only [Act.put, List.setIfInBounds_toArray, List.set_cons_succ, List.set_cons_zero])
  refine wpE_take (i := 10) (oi := { dst := some 23, op := Go.Op.binOp Go.BinOp.mul 3 (Go.Operand.const (Go.Value.int Go.IntKind.i64 9)) (Go.Operand.tmp 22) 3, type := 3, pos := "stages.go:27", after := #[{ on := 9, ground := Go.Ground.data }], guard := none }) (v := ?_) rfl (by kernel_rfl) (fun _ _ _ h => h) (Or.inl ⟨by rfl, fun W hW => ?_⟩) hS ?_
  rotate_left
  · (obtain ⟨hw1, hw2, hw3, hw4⟩ := GecAt.cells hW); go_simp; (try go_bits); (try rw [if_pos (by omega)]); (try with_reducible rfl)
  (try simp only [Act.put, List.setIfInBounds_toArray, List.set_cons_succ, List.set_cons_zero])
  refine wpE_take (i := 11) (oi := { dst := some 24, op := Go.Op.binOp Go.BinOp.add 3 (Go.Operand.const (Go.Value.int Go.IntKind.i64 12)) (Go.Operand.tmp 23) 3, type := 3, pos := "stages.go:27", after := #[{ on := 10, ground := Go.Ground.data }], guard := none }) (v := ?_) rfl (by kernel_rfl) (fun _ _ _ h => h) (Or.inl ⟨by rfl, fun W hW => ?_⟩) hS ?_
  rotate_left
  · (obtain ⟨hw1, hw2, hw3, hw4⟩ := GecAt.cells hW); go_simp; (try go_bits); (try rw [if_pos (by omega)]); (try with_reducible rfl)
  (try simp only [Act.put, List.setIfInBounds_toArray, List.set_cons_succ, List.set_cons_zero])
  refine wpE_take (i := 12) (oi := { dst := some 25, op := Go.Op.binOp Go.BinOp.shr 23 (Go.Operand.tmp 18) (Go.Operand.tmp 24) 3, type := 23, pos := "stages.go:27", after := #[{ on := 5, ground := Go.Ground.data }, { on := 11, ground := Go.Ground.data }], guard := none }) (v := .int .u64 ((a / 4096 : Nat) : Int)) rfl (by kernel_rfl) (fun _ _ _ h => h) (Or.inl ⟨by rfl, fun W hW => ?_⟩) hS ?_
  · (obtain ⟨hw1, hw2, hw3, hw4⟩ := GecAt.cells hW); go_simp; (try omega); (try trivial)
  (try simp only [Act.put, List.setIfInBounds_toArray, List.set_cons_succ, List.set_cons_zero])
  refine wpE_take (i := 13) (oi := { dst := some 26, op := Go.Op.binOp Go.BinOp.and 23 (Go.Operand.tmp 25) (Go.Operand.const (Go.Value.int Go.IntKind.u64 511)) 23, type := 23, pos := "stages.go:27", after := #[{ on := 12, ground := Go.Ground.data }], guard := none }) (v := .int .u64 ((a / 4096 % 512 : Nat) : Int)) rfl (by kernel_rfl) (fun _ _ _ h => h) (Or.inl ⟨by rfl, fun W hW => ?_⟩) hS ?_
  · (obtain ⟨hw1, hw2, hw3, hw4⟩ := GecAt.cells hW); go_simp; (try rw [show ((a : Int) / 4096) = ((a / 4096 : Nat) : Int) from by omega]); (try rw [HI.out.2.2]); (try omega)
  (try simp only [Act.put, List.setIfInBounds_toArray, List.set_cons_succ, List.set_cons_zero])
  refine wpE_only (i := 14) (oi := { dst := some 27, op := Go.Op.call { callee := Go.Callee.value (Go.Operand.tmp 16), args := #[Go.Operand.tmp 17, Go.Operand.tmp 26], argTypes := #[23, 23] }, type := 128, pos := "stages.go:27", after := #[{ on := 3, ground := Go.Ground.data }, { on := 4, ground := Go.Ground.data }, { on := 13, ground := Go.Ground.data }], guard := none }) rfl (by kernel_rfl) (by rfl) (fun K hK => ?_)
  go_simp
  (try rw [show ((a : Int) / 4096 % 512) = ((a / 4096 % 512 : Nat) : Int) from by omega])
  have hE := page_entryG (HX.out _ HB.out.1).1 rb (HX.out _ HB.out.1).2 t0 (a / 4096 % 512) hbt0 (by omega)
  refine hE.mono ?_; rintro r wb ⟨rfl, hUB⟩
  have hSB : Step (fun _ => False) own _ own wb := ⟨hUB, fun _ _ => rfl⟩
  have hSn := HB.out.1.trans (hSB.mono (C' := (· = 7)) (fun _ h => h.elim))
  have hS : GecAt wb b rb lf 0 root := hBn.upd hUB (fun h => h)
  have HC := Lib.hid (And.intro hSn hS)
  clear hE hUB hSB hSn hBn HB
  refine hK _ _ hS ?_; clear hK K
  (try simp only [Act.put, List.setIfInBounds_toArray, List.set_cons_succ, List.set_cons_zero])
  refine wpE_take (i := 15) (oi := { dst := some 12, op := Go.Op.move (Go.Operand.tmp 27), type := 128, pos := "stages.go:27", after := #[{ on := 14, ground := Go.Ground.data }], guard := none }) (v := ?_) rfl (by kernel_rfl) (fun _ _ _ h => h) (Or.inl ⟨by rfl, fun W hW => ?_⟩) hS ?_
  rotate_left
  · (obtain ⟨hw1, hw2, hw3, hw4⟩ := GecAt.cells hW); go_simp; (try go_bits); (try rw [if_pos (by omega)]); (try with_reducible rfl)
  (try simp only [Act.put, List.setIfInBounds_toArray, List.set_cons_succ, List.set_cons_zero])
  refine wpE_take (i := 16) (oi := { dst := some 28, op := Go.Op.extract (Go.Operand.tmp 12) 0, type := 23, pos := "stages.go:27", after := #[{ on := 15, ground := Go.Ground.data }], guard := none }) (v := ?_) rfl (by kernel_rfl) (fun _ _ _ h => h) (Or.inl ⟨by rfl, fun W hW => ?_⟩) hS ?_
  rotate_left
  · (obtain ⟨hw1, hw2, hw3, hw4⟩ := GecAt.cells hW); go_simp; (try go_bits); (try rw [if_pos (by omega)]); (try with_reducible rfl)
  (try simp only [Act.put, List.setIfInBounds_toArray, List.set_cons_succ, List.set_cons_zero])
  refine wpE_take (i := 17) (oi := { dst := some 29, op := Go.Op.extract (Go.Operand.tmp 12) 1, type := 3, pos := "stages.go:27", after := #[{ on := 15, ground := Go.Ground.data }, { on := 18, ground := Go.Ground.gcOnly Go.Departure.lateStores }], guard := none }) (v := ?_) rfl (by kernel_rfl) (fun _ _ _ h => h) (Or.inl ⟨by rfl, fun W hW => ?_⟩) hS ?_
  rotate_left
  · (obtain ⟨hw1, hw2, hw3, hw4⟩ := GecAt.cells hW); go_simp; (try go_bits); (try rw [if_pos (by omega)]); (try with_reducible rfl)
  (try simp only [Act.put, List.setIfInBounds_toArray, List.set_cons_succ, List.set_cons_zero])
  refine wpE_only (i := 18) (oi := { dst := some 7, op := Go.Op.assign (Go.Operand.tmp 28), type := 23, pos := "stages.go:27", after := #[{ on := 16, ground := Go.Ground.data }, { on := 14, ground := Go.Ground.chain }, { on := 0, ground := Go.Ground.phase }, { on := 1, ground := Go.Ground.phase }, { on := 2, ground := Go.Ground.phase }, { on := 3, ground := Go.Ground.phase }, { on := 4, ground := Go.Ground.phase }, { on := 5, ground := Go.Ground.phase }, { on := 6, ground := Go.Ground.phase }, { on := 7, ground := Go.Ground.phase }, { on := 8, ground := Go.Ground.phase }, { on := 9, ground := Go.Ground.phase }, { on := 10, ground := Go.Ground.phase }, { on := 11, ground := Go.Ground.phase }, { on := 12, ground := Go.Ground.phase }, { on := 13, ground := Go.Ground.phase }, { on := 14, ground := Go.Ground.phase }, { on := 15, ground := Go.Ground.phase }, { on := 16, ground := Go.Ground.phase }, { on := 17, ground := Go.Ground.textOnly Go.Departure.lateStores }], guard := none }) rfl (by kernel_rfl) (by rfl) (fun K hK => ?_)
  go_simp; (try go_bits); refine hK _ _ hS ?_; clear hK K
  (try simp only [Act.put, List.setIfInBounds_toArray, List.set_cons_succ, List.set_cons_zero])
  refine wpE_last (oi := { dst := some 8, op := Go.Op.assign (Go.Operand.tmp 29), type := 3, pos := "stages.go:27", after := #[{ on := 17, ground := Go.Ground.data }, { on := 18, ground := Go.Ground.chain }, { on := 0, ground := Go.Ground.phase }, { on := 1, ground := Go.Ground.phase }, { on := 2, ground := Go.Ground.phase }, { on := 3, ground := Go.Ground.phase }, { on := 4, ground := Go.Ground.phase }, { on := 5, ground := Go.Ground.phase }, { on := 6, ground := Go.Ground.phase }, { on := 7, ground := Go.Ground.phase }, { on := 8, ground := Go.Ground.phase }, { on := 9, ground := Go.Ground.phase }, { on := 10, ground := Go.Ground.phase }, { on := 11, ground := Go.Ground.phase }, { on := 12, ground := Go.Ground.phase }, { on := 13, ground := Go.Ground.phase }, { on := 14, ground := Go.Ground.phase }, { on := 15, ground := Go.Ground.phase }, { on := 16, ground := Go.Ground.phase }, { on := 17, ground := Go.Ground.phase }, { on := 18, ground := Go.Ground.phase }], guard := none }) rfl (by kernel_rfl) (by kernel_rfl) (by rfl) (fun K hK => ?_)
  go_simp; (try go_bits); refine hK _ _ ?_; clear hK K
  clear hS
  by_cases hin0 : outG b0 n t0
  · have hd := HD.out
    unfold dnG at hd
    rw [if_pos hin0] at hd
    have HDD := Lib.hid hd
    have h1 : (entR b0 n m t0 (a / 4096 % 512)).1 = 0 := by unfold entR; rw [if_pos hin0]
    have h2 : (entR b0 n m t0 (a / 4096 % 512)).2 = 3 := by unfold entR; rw [if_pos hin0]
    rw [h1, h2]
    clear h1 h2 hd
    go_wp2
    simp only [Exit.jump]
    go_ret
    exact ⟨_, _, by (rw [← HDD.out]; rfl), HC.out.1, HC.out.2, fun h => by rw [← HDD.out] at h; cases h⟩
  have h1 : (entR b0 n m t0 (a / 4096 % 512)).1 = ((ent m (t0 - b0) (a / 4096 % 512) : Nat) : Int) := by unfold entR; rw [if_neg hin0]
  have h2 : (entR b0 n m t0 (a / 4096 % 512)).2 = 0 := by unfold entR; rw [if_neg hin0]
  rw [h1, h2]
  have hd := HD.out
  unfold dnG at hd
  rw [if_neg hin0] at hd
  have he64 := ent_lt HBD.out (t0 - b0) (a / 4096 % 512)
  obtain ⟨e0, he0⟩ : ∃ e, ent m (t0 - b0) (a / 2 ^ 12 % 512) = e := ⟨_, rfl⟩
  rw [show (2 : Nat) ^ 12 = 4096 from rfl] at *
  rw [he0] at he64 hd ⊢
  clear h1 h2 he0 HD
  have HWr := Lib.hid (wrong_g e0 he64)
  have h10 := and10_g e0 he64
  have z1 := HC.out.2.frozen 1
  have z2 := HC.out.2.frozen 2
  have y1 := HC.out.2.cells.2.1
  have y2 := HC.out.2.cells.2.2.1
  have hlt := HC.out.2.lt
  go_wp2_with fail
  ((with_reducible refine (HWr.out _).mono ?_); rintro r wz ⟨rfl, rfl⟩)
  clear HWr
  obtain ⟨bad, hbad⟩ : ∃ bad, badE e0 = bad := ⟨_, rfl⟩
  rw [hbad] at hd ⊢
  obtain ⟨lfb, hlfb⟩ : ∃ q, leafE e0 = q := ⟨_, rfl⟩
  rw [hlfb] at hd h10
  clear hbad hlfb
  cases bad with
  | true =>
    rw [if_pos rfl] at hd
    have HDD := Lib.hid hd
    clear hd h10
    go_wp2
    simp only [Exit.jump]
    go_ret
    exact ⟨_, _, by (rw [← HDD.out]; rfl), HC.out.1, HC.out.2, fun h => by rw [← HDD.out] at h; cases h⟩
  | false =>
  rw [if_neg (by decide)] at hd
  cases lfb with
  | true =>
    rw [if_pos rfl] at hd
    have HDD := Lib.hid hd
    have hz : bits .and .u64 ((e0 : Int) / 1024) 0 = 0 := and_zeroG _ (by omega)
    clear hd
    go_wp2
    simp only [Exit.jump]
    go_ret
    exact ⟨_, _, by (rw [← HDD.out]; rfl), HC.out.1.trans ⟨(Upd.refl _ _).setCell (.inl hob) _, fun _ _ => rfl⟩, HC.out.2.set_ 1 (.int .u64 (e0 : Int)), fun h => by rw [← HDD.out]; exact ⟨rfl, rfl⟩⟩
  | false =>
  rw [if_neg (by decide)] at hd
  have HDD := Lib.hid hd
  clear hd
  go_wp2
  simp only [Exit.jump]
  go_ret
  exact ⟨_, _, by (rw [← HDD.out]; rfl), HC.out.1, HC.out.2, fun h => by rw [← HDD.out] at h; cases h⟩
end
end Go.Proofs.YtonhlgfgbdiapaaGreat
