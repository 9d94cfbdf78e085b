import Derived.Test.YtpodeclkgcgpgaaSt2
import Derived.OwnWalk
/- What hardware reads: Second.Go, page.Guest. -/
namespace Go.Proofs.Ytpodeclkgcgpgaa
set_option linter.unusedVariables false
set_option linter.unusedSimpArgs false
open Go.RowKit
set_option maxRecDepth 100000

/-- does a page's rights let an access -/
def rightB (acc : Int) : Int := if acc = 1 then 8 else if acc = 2 then 2 else 4
def letP (p acc : Int) : Bool := bits .and .u64 p (rightB acc) == rightB acc
theorem LeafF.lets {e fr : Nat} {p acc : Int} (h : LeafF e fr p) (hp : permOk p) (ha : acc = 1 ∨ acc = 2 ∨ acc = 3) : (bits .and .u64 (e : Int) (wantB acc) == wantB acc) = letP p acc := by
  have h1 := h.a88
  have h2 := h.a82
  have h3 := h.a212
  rcases ha with rfl | rfl | rfl
  · show (bits .and .u64 (e : Int) 88 == 88) = _
    rw [h1]; rcases hp with rfl | rfl | rfl | rfl | rfl <;> decide
  · show (bits .and .u64 (e : Int) 82 == 82) = _
    rw [h2]; rcases hp with rfl | rfl | rfl | rfl | rfl <;> decide
  · show (bits .and .u64 (e : Int) 212 == 212) = _
    rw [h3]; rcases hp with rfl | rfl | rfl | rfl | rfl <;> decide
/-- the tables of a page that is mapped -/
structure TabOk (n : Nat) (m : Nat → Int) (t0 page f1 f0 fr : Nat) (p : Int) : Prop where
  hp : page < 134217728
  h0 : t0 < n
  l1 : lv1 m t0 page = f1 * 1024 + 1
  h1 : f1 < n
  l0 : lv0 m t0 page = f0 * 1024 + 1
  h2 : f0 < n
  lf : en m f0 (page % 512) = fr * 1024 + 209 + p.toNat
  pm : permOk p
  fr : fr < n
section
variable {own : Nat → Nat} {c rp n : Nat} {m : Nat → Int} {w : World}
set_option maxHeartbeats 4000000 in
theorem wk_go {b rb t0 page a f1 f0 fr : Nat} {lf lv p acc : Int} (hM : MemAt ramK own c w rp 0 n m) (hc : c ≠ 7) (hR : Blk w rb 24 #[.pointer (some ⟨rp, 0, none⟩)]) (hB : SecAt w b rb lf lv (t0 : Int)) (hob : own b = 7) (hor : own rb ≠ 7)
    (hT : TabOk n m t0 page f1 f0 fr p) (ht : 1 ≤ t0) (ha : a / 4096 = page) (hacc : acc = 1 ∨ acc = 2 ∨ acc = 3) :
    Calls Try.prog 116 #[.pointer (some ⟨b, 0, none⟩), .int .u64 (a : Int), .int .i64 acc] w fun r w' =>
      r = .returned (.tuple #[.int .u64 (if letP p acc then ((fr * 4096 + a % 4096 : Nat) : Int) else 0), .int .i64 (if letP p acc then p else 0), .int .i64 (if letP p acc then 0 else 2)]) ∧ Step (· = 7) own w own w' := by
  have hn := hM.sizes.2.2
  have hL := leafF fr p (by have := hT.fr; omega) hT.pm
  obtain ⟨e, he⟩ : ∃ e, fr * 1024 + 209 + p.toNat = e := ⟨_, rfl⟩
  rw [he] at hL
  have hgo := hL.lets hT.pm hacc
  have hp := hT.hp
  have hfr := hT.fr
  have hstd : Step (fun _ => False) own w own w.drew := (Step.refl _ _ _).drew
  have hBd : SecAt w.drew b rb lf lv (t0 : Int) := hB.drew
  have HD := Lib.hid (wk_down (hM.step hstd (fun h => h)) hc hR.drew hBd hob hor hp ha hT.h0 hT.l1 hT.h1 hT.l0 hT.h2 (hT.lf.trans he) hL hT.pm)
  have y3 := hB.cells.2.2.2
  have HSD := Lib.hid (hstd.mono (C' := (· = 7)) (fun _ h => h.elim))
  have HL := Lib.hid hL
  have HGo := Lib.hid hgo
  have h14 := hL.a14
  have h128 : (bits .and .u64 (e : Int) 128 == 128) = true := by rw [hL.a128]; rfl
  have H128 := Lib.hid h128
  have hpb : IntKind.i64.wrap p = p := IntWalk.i64_in _ (by have := hT.pm; unfold permOk at this; omega)
  have ht0 : ((t0 : Int) == 0) = false := by simp; omega
  have ha39 : decide ((549755813888 : Int) ≤ (a : Int)) = false := by simp; omega
  have HBD := Lib.hid (show fr < 1099511627776 ∧ a < 549755813888 by omega)
  clear hM hR hB hT hL hgo hstd h128 he hn hp
  generalize letP p acc = r at *
  go_enter Try.func116, Try.ntmps116
  go_wp2_with fail
  refine wpE_region (S := fun (W' : World) => W'.cell? ⟨b, 3, none⟩ = some (.int .u64 (t0 : Int))) (s := 9) (by kernel_rfl) ?_
  have hS : (fun (W' : World) => W'.cell? ⟨b, 3, none⟩ = some (.int .u64 (t0 : Int))) _ := y3
  refine wpE_take (i := 0) (oi := { dst := some 17, op := Go.Op.move (Go.Operand.tmp 0), type := 198, pos := "stages.go:66", after := #[], guard := none }) (v := ?_) rfl (by kernel_rfl) (fun _ _ _ h => h) (Or.inl ⟨by rfl, fun W hW => ?_⟩) hS ?_
  rotate_left
  · (have hw1 : W.cell? ⟨b, 3, none⟩ = some (.int .u64 (t0 : Int)) := hW); go_simp; (try go_bits); (try rw [if_pos (by omega)]); (try with_reducible rfl)
  (try simp only [Act.put, List.setIfInBounds_toArray, List.set_cons_succ, List.set_cons_zero])
  refine wpE_take (i := 1) (oi := { dst := some 18, op := Go.Op.nilCheck (Go.Operand.tmp 17), type := 0, pos := "stages.go:66", after := #[{ on := 0, ground := Go.Ground.data }], guard := none }) (v := ?_) rfl (by kernel_rfl) (fun _ _ _ h => h) (Or.inl ⟨by rfl, fun W hW => ?_⟩) hS ?_
  rotate_left
  · (have hw1 : W.cell? ⟨b, 3, none⟩ = some (.int .u64 (t0 : Int)) := hW); go_simp; (try go_bits); (try rw [if_pos (by omega)]); (try with_reducible rfl)
  (try simp only [Act.put, List.setIfInBounds_toArray, List.set_cons_succ, List.set_cons_zero])
  refine wpE_take (i := 2) (oi := { dst := some 19, op := Go.Op.fieldAddr 204 (Go.Operand.tmp 18) 0, type := 0, pos := "stages.go:66", after := #[{ on := 1, ground := Go.Ground.data }], guard := none }) (v := ?_) rfl (by kernel_rfl) (fun _ _ _ h => h) (Or.inl ⟨by rfl, fun W hW => ?_⟩) hS ?_
  rotate_left
  · (have hw1 : W.cell? ⟨b, 3, none⟩ = some (.int .u64 (t0 : Int)) := hW); go_simp; (try go_bits); (try rw [if_pos (by omega)]); (try with_reducible rfl)
  (try simp only [Act.put, List.setIfInBounds_toArray, List.set_cons_succ, List.set_cons_zero])
  refine wpE_take (i := 3) (oi := { dst := some 20, op := Go.Op.move (Go.Operand.tmp 0), type := 198, pos := "stages.go:66", after := #[], guard := none }) (v := ?_) rfl (by kernel_rfl) (fun _ _ _ h => h) (Or.inl ⟨by rfl, fun W hW => ?_⟩) hS ?_
  rotate_left
  · (have hw1 : W.cell? ⟨b, 3, none⟩ = some (.int .u64 (t0 : Int)) := hW); go_simp; (try go_bits); (try rw [if_pos (by omega)]); (try with_reducible rfl)
  (try simp only [Act.put, List.setIfInBounds_toArray, List.set_cons_succ, List.set_cons_zero])
  refine wpE_take (i := 4) (oi := { dst := some 21, op := Go.Op.nilCheck (Go.Operand.tmp 20), type := 0, pos := "stages.go:66", after := #[{ on := 3, ground := Go.Ground.data }], guard := none }) (v := ?_) rfl (by kernel_rfl) (fun _ _ _ h => h) (Or.inl ⟨by rfl, fun W hW => ?_⟩) hS ?_
  rotate_left
  · (have hw1 : W.cell? ⟨b, 3, none⟩ = some (.int .u64 (t0 : Int)) := hW); go_simp; (try go_bits); (try rw [if_pos (by omega)]); (try with_reducible rfl)
  (try simp only [Act.put, List.setIfInBounds_toArray, List.set_cons_succ, List.set_cons_zero])
  refine wpE_take (i := 5) (oi := { dst := some 22, op := Go.Op.fieldAddr 204 (Go.Operand.tmp 21) 1, type := 0, pos := "stages.go:66", after := #[{ on := 4, ground := Go.Ground.data }], guard := none }) (v := ?_) rfl (by kernel_rfl) (fun _ _ _ h => h) (Or.inl ⟨by rfl, fun W hW => ?_⟩) hS ?_
  rotate_left
  · (have hw1 : W.cell? ⟨b, 3, none⟩ = some (.int .u64 (t0 : Int)) := hW); go_simp; (try go_bits); (try rw [if_pos (by omega)]); (try with_reducible rfl)
  (try simp only [Act.put, List.setIfInBounds_toArray, List.set_cons_succ, List.set_cons_zero])
  refine wpE_take (i := 6) (oi := { dst := some 23, op := Go.Op.load 30 (Go.Operand.tmp 22), type := 30, pos := "stages.go:66", after := #[{ on := 5, ground := Go.Ground.data }], guard := none }) (v := ?_) rfl (by kernel_rfl) (fun _ _ _ h => h) (Or.inl ⟨by rfl, fun W hW => ?_⟩) hS ?_
  rotate_left
  · (have hw1 : W.cell? ⟨b, 3, none⟩ = some (.int .u64 (t0 : Int)) := hW); go_simp; (try go_bits); (try rw [if_pos (by omega)]); (try with_reducible rfl)
  (try simp only [Act.put, List.setIfInBounds_toArray, List.set_cons_succ, List.set_cons_zero])
  refine wpE_take (i := 7) (oi := { dst := some 24, op := Go.Op.move (Go.Operand.tmp 1), type := 30, pos := "stages.go:66", after := #[], guard := none }) (v := ?_) rfl (by kernel_rfl) (fun _ _ _ h => h) (Or.inl ⟨by rfl, fun W hW => ?_⟩) hS ?_
  rotate_left
  · (have hw1 : W.cell? ⟨b, 3, none⟩ = some (.int .u64 (t0 : Int)) := hW); go_simp; (try go_bits); (try rw [if_pos (by omega)]); (try with_reducible rfl)
  (try simp only [Act.put, List.setIfInBounds_toArray, List.set_cons_succ, List.set_cons_zero])
  refine wpE_only (i := 8) (oi := { dst := some 25, op := Go.Op.call { callee := Go.Callee.value (Go.Operand.func 149), args := #[Go.Operand.tmp 19, Go.Operand.tmp 23, Go.Operand.tmp 24], argTypes := #[202, 30, 30] }, type := 3, pos := "stages.go:66", after := #[{ on := 2, ground := Go.Ground.data }, { on := 6, ground := Go.Ground.data }, { on := 7, ground := Go.Ground.data }], guard := none }) rfl (by kernel_rfl) (by rfl) (fun K hK => ?_)
  go_simp
  refine HD.out.mono ?_; rintro q w2 ⟨rfl, hS2, hB2⟩
  have hS : w2.cell? ⟨b, 3, none⟩ = some (.int .u64 (t0 : Int)) := hB2.cells.2.2.2
  have H2 := Lib.hid (And.intro (HSD.out.trans hS2) hB2)
  clear hS2 hB2 HD HSD
  refine hK _ _ hS ?_; clear hK K
  (try simp only [Act.put, List.setIfInBounds_toArray, List.set_cons_succ, List.set_cons_zero])
  refine wpE_last (oi := { dst := some 8, op := Go.Op.assign (Go.Operand.tmp 25), type := 3, pos := "stages.go:66", after := #[{ on := 8, ground := Go.Ground.data }, { on := 8, ground := Go.Ground.chain }, { on := 0, ground := Go.Ground.phase }, { on := 1, ground := Go.Ground.phase }, { on := 2, ground := Go.Ground.phase }, { on := 3, ground := Go.Ground.phase }, { on := 4, ground := Go.Ground.phase }, { on := 5, ground := Go.Ground.phase }, { on := 6, ground := Go.Ground.phase }, { on := 7, ground := Go.Ground.phase }, { on := 8, ground := Go.Ground.phase }], guard := none }) rfl (by kernel_rfl) (by kernel_rfl) (by rfl) (fun K hK => ?_)
  go_simp; (try go_bits); refine hK _ _ ?_; clear hK K
  clear hS
  have HLt := Lib.hid (wk_lets H2.out.2 acc hacc r HGo.out)
  obtain ⟨c0, c1, c2, c3⟩ := H2.out.2.cells
  go_wp2_with fail
  refine HLt.out.mono ?_; rintro q wz ⟨rfl, rfl⟩
  clear HLt
  rcases r with _ | _
  · go_wp2
    go_ret3
    exact ⟨rfl, H2.out.1⟩
  · have HH := Lib.hid (wk_has H2.out.2 128 true H128.out)
    have HP := Lib.hid (wk_place H2.out.2 HL.out.lt HBD.out.1 HL.out.nm a HBD.out.2)
    go_wp2_with fail
    refine HH.out.mono ?_; rintro q wz ⟨rfl, rfl⟩
    go_wp2_with fail
    refine HP.out.mono ?_; rintro q wz ⟨rfl, rfl⟩
    have H3 := Lib.hid (H2.out.1.drew)
    go_wp2
    go_ret3
    exact ⟨rfl, H3.out⟩
set_option maxHeartbeats 2000000 in
theorem page_Guest {t0 page a f1 f0 fr : Nat} {p acc : Int} (hM : MemAt ramK own c w rp 0 n m) (hc : c ≠ 7) (hT : TabOk n m t0 page f1 f0 fr p) (ht : 1 ≤ t0) (ha : a / 4096 = page) (hacc : acc = 1 ∨ acc = 2 ∨ acc = 3) :
    Calls Try.prog 56 #[.pointer (some ⟨rp, 0, none⟩), .int .u64 (t0 : Int), .int .u64 (a : Int), .int .i64 acc] w fun r w' =>
      r = .returned (.tuple #[.int .u64 (if letP p acc then ((fr * 4096 + a % 4096 : Nat) : Int) else 0), .int .i64 (if letP p acc then p else 0), .int .i64 (if letP p acc then 0 else 2)]) ∧ Upd (fun _ => False) w w' := by
  obtain ⟨own0, h0, h7⟩ : ∃ own0 : Nat → Nat, (∀ b, own b = c → own0 b = c) ∧ ∀ b, own0 b ≠ 7 := ⟨fun b => if own b = 7 then 0 else own b, fun b e => by show (if own b = 7 then 0 else own b) = c; rw [if_neg (by omega)]; exact e, fun b => by show (if own b = 7 then 0 else own b) ≠ 7; split <;> omega⟩
  have hM0 := hM.recol h0
  have HM := Lib.hid hM0
  clear hM hM0 h0
  obtain ⟨r, hr⟩ : ∃ r, letP p acc = r := ⟨_, rfl⟩
  rw [hr]
  go_enter Try.func56, Try.ntmps56
  go_wp2_with fail
  refine (page_entry rp _).mono ?_; rintro q w1 ⟨rb, rfl, hU1, hlrb, hBr⟩
  have hS1 : Step (fun _ => False) own0 w own0 w1 := ⟨hU1, fun _ _ => rfl⟩
  have hst : Step (fun _ => False) own0 w1 (ext own0 w1 7) (w1.alloc (.cells #[.func (.func 148) #[] #[.pointer (some ⟨rb, 0, none⟩)], .int .u64 0, .int .i64 0, .int .u64 (t0 : Int)] 204)) := ⟨(Upd.refl _ _).alloc _, fun b hb => ext_old _ _ _ hb⟩
  have hG := wk_go (HM.out.step (hS1.trans hst) (fun h => h)) hc (hBr.alloc _) (show SecAt _ w1.heap.size rb 0 0 (t0 : Int) from Blk.new w1 204 _) (ext_new _ _ _ (Nat.le_refl _)) (by rw [ext_old own0 w1 7 hBr.lt]; exact h7 rb) hT ht ha hacc
  rw [hr] at hG
  have HG := Lib.hid hG
  have HU := Lib.hid (hS1.trans hst)
  clear hS1 hst hG hU1 hBr HM hr
  go_wp2_with fail
  refine HG.out.mono ?_; rintro q w2 ⟨rfl, hS2⟩
  have HE := Lib.hid (HU.out.upd.trans' hS2.upd (fun i hi e => h7 i (by rw [← HU.out.old i hi]; exact e)))
  clear hS2 HG HU
  rcases r with _ | _
  · go_wp2
    go_ret3
    exact ⟨rfl, HE.out⟩
  · go_wp2
    go_ret3
    exact ⟨rfl, HE.out⟩
end
end Go.Proofs.Ytpodeclkgcgpgaa
