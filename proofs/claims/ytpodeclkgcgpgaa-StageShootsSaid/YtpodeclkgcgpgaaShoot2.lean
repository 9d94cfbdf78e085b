import Derived.Test.YtpodeclkgcgpgaaShoot
/- Shootdowns: Post, Serve. -/
namespace Go.Proofs.Ytpodeclkgcgpgaa
set_option linter.unusedVariables false
set_option linter.unusedSimpArgs false
open Go.RowKit
set_option maxRecDepth 100000

def orV (b v : Nat) : Nat := b ||| 2 ^ v
def postTo (bs : List Nat) (v k : Nat) : List Nat := (bs.take k).map (fun b => orV b v) ++ bs.drop k
def postL (bs : List Nat) (v : Nat) : List Nat := bs.map (fun b => orV b v)
theorem postTo_len (bs : List Nat) (v k : Nat) : (postTo bs v k).length = bs.length := by
  unfold postTo; rw [List.length_append, List.length_map, List.length_take, List.length_drop]; omega
theorem postTo_at (bs : List Nat) (v k : Nat) (hk : k < bs.length) : (postTo bs v k)[k]? = bs[k]? := by
  unfold postTo
  rw [List.getElem?_append_right (by simp; omega), List.length_map, List.length_take, Nat.min_eq_left (by omega), Nat.sub_self, List.getElem?_drop, Nat.add_zero]
theorem postTo_succ (bs : List Nat) (v k b : Nat) (hk : bs[k]? = some b) : (postTo bs v k).set k (orV b v) = postTo bs v (k + 1) := by
  have hl := (List.getElem?_eq_some_iff.1 hk).1
  have hb := (List.getElem?_eq_some_iff.1 hk).2
  unfold postTo
  rw [List.set_append_right _ _ (by simp; omega), List.length_map, List.length_take, Nat.min_eq_left (by omega), Nat.sub_self, List.drop_eq_getElem_cons hl, List.set_cons_zero, List.take_add_one, hk, List.map_append, List.append_assoc]
  rfl
theorem postTo_all (bs : List Nat) (v : Nat) : postTo bs v bs.length = postL bs v := by simp [postTo, postL]
theorem or16 (b v : Nat) (hb : b < 65536) (hv : v ≤ 15) : orV b v < 65536 := Nat.or_lt_two_pow (n := 16) hb (by have : 2 ^ v ≤ 2 ^ 15 := Nat.pow_le_pow_right (by decide) hv; omega)
theorem pow16 {v : Nat} (hv : v ≤ 15) : 2 ^ v < 65536 := by
  have : 2 ^ v ≤ 2 ^ 15 := Nat.pow_le_pow_right (by decide) hv
  omega
section
variable {own own' : Nat → Nat} {c sp : Nat} {w w' : World} {bs : List Nat}
set_option maxHeartbeats 4000000 in
theorem sh_Post (h : ShAt own c w sp bs) (v : Nat) (hv : 1 ≤ v ∧ v ≤ 15) :
    Calls Try.prog 62 #[.pointer (some ⟨sp, 0, none⟩), .int .i64 (v : Int)] w fun e w' => e = .returned (.tuple #[]) ∧ Step (· = c) own w own w' ∧ ShAt own c w' sp (postL bs v) := by
  obtain ⟨q, c0, _, hlq, hoq, hc, hz⟩ := h.cells
  have hl := h.2.2.1
  have hv1 : 1 ≤ (v : Int) := by omega
  have HRt := Lib.hid (st_rightS (v : Int) w)
  have hd : decide (1 ≤ (v : Int) ∧ (v : Int) ≤ 15) = true := by simp; omega
  rw [hd] at HRt
  have H0 := Lib.hid (And.intro h (And.intro hc hz))
  have HV := Lib.hid hv
  have HP2 := Lib.hid (show (2 : Int) ^ (min v 32) % 4294967296 = ((2 ^ v : Nat) : Int) by
    rw [Nat.min_eq_left (by omega)]
    have := pow16 hv.2
    rw [show (2 : Int) ^ v = ((2 ^ v : Nat) : Int) from by simp]
    generalize 2 ^ v = x at *
    omega)
  clear h hc hz hd hv hv1
  go_enter Try.func62, Try.ntmps62
  go_wp2_with fail
  refine HRt.out.mono ?_; rintro e w1 ⟨rfl, rfl⟩
  clear HRt
  go_wp2
  go_loopw [13] (fun i wr => ∃ (k : Nat), k ≤ bs.length ∧ i = .int .i64 (k : Int) ∧ Hid (Step (· = c) own w own wr ∧ ShAt own c wr sp (postTo bs v k) ∧ wr.cell? ⟨sp, 0, none⟩ = some (.slice (some ⟨q, 0, none⟩) bs.length bs.length))) (fun i _ => bs.length - (intOf i).toNat)
  case atStart => exact ⟨0, by omega, rfl, Step.refl _ _ _, H0.out.1, c0⟩
  case round =>
    obtain ⟨k, hk, rfl, HL⟩ := hrel
    by_cases hlt : k < bs.length
    · obtain ⟨hS, hSh, hcq⟩ := HL.out
      have hlt' : (k : Int) < (bs.length : Int) := by omega
      obtain ⟨b, hb⟩ : ∃ b, bs[k]? = some b := ⟨_, List.getElem?_eq_getElem hlt⟩
      have hc16 := H0.out.1.2.2.2 b (List.mem_of_getElem? hb)
      obtain ⟨q', x0, lsp, lq, ho', hcc, hzz⟩ := hSh.cells
      have e := x0.symm.trans hcq
      rw [postTo_len] at e x0
      cases e
      have cb := hcc k b (by rw [postTo_at bs v k hlt]; exact hb)
      have hO := au32_Or ⟨q, k, none⟩ (b : Int) ((2 ^ v : Nat) : Int) wr.drew cb (hzz k)
      rw [u32_or_nat _ _ (by omega) (by have := pow16 HV.out.2; omega)] at hO
      rw [show b ||| 2 ^ v = orV b v from rfl] at hO
      have HO := Lib.hid hO
      have HX := Lib.hid (And.intro hS (And.intro hSh (And.intro hb hc16)))
      clear hO hS hSh hb hc16 hcc hzz HL x0
      go_wp2_with fail
      refine wpE_region (S := fun (W' : World) => W'.cell? ⟨sp, 0, none⟩ = some (.slice (some ⟨q, 0, none⟩) bs.length bs.length)) (s := 8) (by kernel_rfl) ?_
      have hS : (fun (W' : World) => W'.cell? ⟨sp, 0, none⟩ = some (.slice (some ⟨q, 0, none⟩) bs.length bs.length)) _ := hcq
      refine wpE_take (i := 0) (oi := { dst := some 16, op := Go.Op.move (Go.Operand.tmp 0), type := 98, pos := "shoot.go:27", after := #[], guard := none }) (v := ?_) rfl (by kernel_rfl) (fun _ _ _ h => h) (Or.inl ⟨by rfl, fun W hW => ?_⟩) hS ?_
      rotate_left
      · (have hw1 : W.cell? ⟨sp, 0, none⟩ = some (.slice (some ⟨q, 0, none⟩) bs.length bs.length) := hW); go_simp; (try go_bits); (try rw [if_pos (by omega)]); (try with_reducible rfl)
      (try simp only [Act.put, List.setIfInBounds_toArray, List.set_cons_succ, List.set_cons_zero])
      refine wpE_take (i := 1) (oi := { dst := some 17, op := Go.Op.nilCheck (Go.Operand.tmp 16), type := 0, pos := "shoot.go:27", after := #[{ on := 0, ground := Go.Ground.data }], guard := none }) (v := ?_) rfl (by kernel_rfl) (fun _ _ _ h => h) (Or.inl ⟨by rfl, fun W hW => ?_⟩) hS ?_
      rotate_left
      · (have hw1 : W.cell? ⟨sp, 0, none⟩ = some (.slice (some ⟨q, 0, none⟩) bs.length bs.length) := hW); go_simp; (try go_bits); (try rw [if_pos (by omega)]); (try with_reducible rfl)
      (try simp only [Act.put, List.setIfInBounds_toArray, List.set_cons_succ, List.set_cons_zero])
      refine wpE_take (i := 2) (oi := { dst := some 18, op := Go.Op.fieldAddr 208 (Go.Operand.tmp 17) 0, type := 0, pos := "shoot.go:27", after := #[{ on := 1, ground := Go.Ground.data }], guard := none }) (v := ?_) rfl (by kernel_rfl) (fun _ _ _ h => h) (Or.inl ⟨by rfl, fun W hW => ?_⟩) hS ?_
      rotate_left
      · (have hw1 : W.cell? ⟨sp, 0, none⟩ = some (.slice (some ⟨q, 0, none⟩) bs.length bs.length) := hW); go_simp; (try go_bits); (try rw [if_pos (by omega)]); (try with_reducible rfl)
      (try simp only [Act.put, List.setIfInBounds_toArray, List.set_cons_succ, List.set_cons_zero])
      refine wpE_take (i := 3) (oi := { dst := some 19, op := Go.Op.load 206 (Go.Operand.tmp 18), type := 206, pos := "shoot.go:27", after := #[{ on := 2, ground := Go.Ground.data }], guard := none }) (v := ?_) rfl (by kernel_rfl) (fun _ _ _ h => h) (Or.inl ⟨by rfl, fun W hW => ?_⟩) hS ?_
      rotate_left
      · (have hw1 : W.cell? ⟨sp, 0, none⟩ = some (.slice (some ⟨q, 0, none⟩) bs.length bs.length) := hW); go_simp; (try go_bits); (try rw [if_pos (by omega)]); (try with_reducible rfl)
      (try simp only [Act.put, List.setIfInBounds_toArray, List.set_cons_succ, List.set_cons_zero])
      refine wpE_take (i := 4) (oi := { dst := some 20, op := Go.Op.move (Go.Operand.tmp 4), type := 3, pos := "shoot.go:27", after := #[], guard := none }) (v := ?_) rfl (by kernel_rfl) (fun _ _ _ h => h) (Or.inl ⟨by rfl, fun W hW => ?_⟩) hS ?_
      rotate_left
      · (have hw1 : W.cell? ⟨sp, 0, none⟩ = some (.slice (some ⟨q, 0, none⟩) bs.length bs.length) := hW); go_simp; (try go_bits); (try rw [if_pos (by omega)]); (try with_reducible rfl)
      (try simp only [Act.put, List.setIfInBounds_toArray, List.set_cons_succ, List.set_cons_zero])
      refine wpE_take (i := 5) (oi := { dst := some 21, op := Go.Op.indexAddr 206 (Go.Operand.tmp 19) (Go.Operand.tmp 20), type := 0, pos := "shoot.go:27", after := #[{ on := 3, ground := Go.Ground.data }, { on := 4, ground := Go.Ground.data }], guard := none }) (v := ?_) rfl (by kernel_rfl) (fun _ _ _ h => h) (Or.inl ⟨by rfl, fun W hW => ?_⟩) hS ?_
      rotate_left
      · (have hw1 : W.cell? ⟨sp, 0, none⟩ = some (.slice (some ⟨q, 0, none⟩) bs.length bs.length) := hW); go_simp; (try go_bits); (try rw [if_pos (by omega)]); (try with_reducible rfl)
      (try simp only [Act.put, List.setIfInBounds_toArray, List.set_cons_succ, List.set_cons_zero])
      refine wpE_take (i := 6) (oi := { dst := some 22, op := Go.Op.move (Go.Operand.tmp 1), type := 3, pos := "shoot.go:27", after := #[], guard := none }) (v := ?_) rfl (by kernel_rfl) (fun _ _ _ h => h) (Or.inl ⟨by rfl, fun W hW => ?_⟩) hS ?_
      rotate_left
      · (have hw1 : W.cell? ⟨sp, 0, none⟩ = some (.slice (some ⟨q, 0, none⟩) bs.length bs.length) := hW); go_simp; (try go_bits); (try rw [if_pos (by omega)]); (try with_reducible rfl)
      (try simp only [Act.put, List.setIfInBounds_toArray, List.set_cons_succ, List.set_cons_zero])
      refine wpE_take (i := 7) (oi := { dst := some 23, op := Go.Op.binOp Go.BinOp.shl 152 (Go.Operand.const (Go.Value.int Go.IntKind.u32 1)) (Go.Operand.tmp 22) 3, type := 152, pos := "shoot.go:27", after := #[{ on := 6, ground := Go.Ground.data }], guard := none }) (v := ?_) rfl (by kernel_rfl) (fun _ _ _ h => h) (Or.inl ⟨by rfl, fun W hW => ?_⟩) hS ?_
      rotate_left
      · (have hw1 : W.cell? ⟨sp, 0, none⟩ = some (.slice (some ⟨q, 0, none⟩) bs.length bs.length) := hW); go_simp; (try go_bits); (try rw [if_pos (by omega)]); (try with_reducible rfl)
      (try simp only [Act.put, List.setIfInBounds_toArray, List.set_cons_succ, List.set_cons_zero])
      refine wpE_last (oi := { dst := some 24, op := Go.Op.call { callee := Go.Callee.value (Go.Operand.func 117), args := #[Go.Operand.tmp 21, Go.Operand.tmp 23], argTypes := #[211, 152] }, type := 152, pos := "shoot.go:27", after := #[{ on := 5, ground := Go.Ground.data }, { on := 7, ground := Go.Ground.data }], guard := none }) rfl (by kernel_rfl) (by kernel_rfl) (by rfl) (fun K hK => ?_)
      go_simp
      rw [HP2.out]
      refine HO.out.mono ?_; rintro e w2 ⟨rfl, rfl⟩
      have hst : Step (fun _ => False) own wr own wr.drew := (Step.refl _ _ _).drew
      have hset := (HX.out.2.1.step hst (fun h => h)).set (k := k) (b := orV b v) (Upd.refl _ _) (or16 b v HX.out.2.2.2 HV.out.2) q (by rw [postTo_len]; exact hcq)
      rw [postTo_succ bs v k b HX.out.2.2.1] at hset
      have hcell := (HX.out.2.1.step hst (fun h => h)).set_cell (k := k) (b := orV b v) (Upd.refl _ _) q (by rw [postTo_len]; exact hcq)
      rw [postTo_len] at hcell
      have HN := Lib.hid (And.intro (HX.out.1.trans ((hst.mono (C' := (· = c)) (fun _ h => h.elim)).trans hset.1)) (And.intro hset.2 hcell))
      clear hst hset hcell HX HO
      refine hK _ _ ?_; clear hK K
      clear hS hcq cb
      go_wp2
      exact ⟨⟨k + 1, by omega, by go_num, HN.out⟩, by simp [intOf]; omega⟩
    · obtain rfl : k = bs.length := by omega
      rw [postTo_all] at HL
      go_wp2
      go_end0
      exact ⟨rfl, HL.out.1, HL.out.2.1⟩
theorem sh_Post_bad (w : World) (v : Int) (hv : v < 1 ∨ 15 < v) :
    Calls Try.prog 62 #[.pointer (some ⟨sp, 0, none⟩), .int .i64 v] w fun e w' => e = .returned (.tuple #[]) ∧ w = w' := by
  have HRt := Lib.hid (st_rightS v w)
  have hd : decide (1 ≤ v ∧ v ≤ 15) = false := by simp; omega
  rw [hd] at HRt
  clear hd hv
  go_enter Try.func62, Try.ntmps62
  go_wp2_with fail
  refine HRt.out.mono ?_; rintro e w1 ⟨rfl, rfl⟩
  clear HRt
  go_wp2
  exact bodyPost_ret (results_none rfl _ _ _) rfl ⟨rfl, rfl⟩
/-- what a Serve flushes; what is due behind it -/
def flushAll (l : List Tr) : List Int → List Tr
  | [] => l
  | v :: vs => flushAll (flushT l v) vs
theorem flushAll_snoc (vs : List Int) : ∀ (l : List Tr) (v : Int), flushAll l (vs ++ [v]) = flushT (flushAll l vs) v := by
  induction vs with
  | nil => intro l v; rfl
  | cons x vs ih => intro l v; exact ih (flushT l x) v
def servB (bs : List Nat) (k b : Nat) : List Nat := if (dueL b).length = 0 then bs else bs.set k 0
set_option maxHeartbeats 4000000 in
theorem sh_Serve {tc td tp room : Nat} {l : List Tr} (h : ShAt own c w sp bs) (hT : TlbAt own tc td w tp room l) (hne : c ≠ tc ∧ c ≠ td ∧ tc ≠ td) (k b : Nat) (hk : bs[k]? = some b) :
    Calls Try.prog 64 #[.pointer (some ⟨sp, 0, none⟩), .int .i64 (k : Int), .pointer (some ⟨tp, 0, none⟩)] w fun e w' => e = .returned (.int .i64 ((dueL b).length : Int)) ∧ ∃ own', Step (fun x => x = c ∨ x = tc) own w own' w' ∧ ShAt own' c w' sp (servB bs k b) ∧ TlbAt own' tc td w' tp room (flushAll l (dueL b)) := by
  obtain ⟨dd, hd1, hd2⟩ : ∃ dd, dd ≠ tc ∧ dd ≠ c := ⟨tc + c + 1, by omega, by omega⟩
  have HD := Lib.hid (sh_Due h k b hk dd)
  have H0 := Lib.hid (And.intro h (And.intro hT (And.intro hne hk)))
  have hlen := dueTo_len b 16
  have HLN := Lib.hid hlen
  obtain ⟨L, hL⟩ : ∃ L, dueL b = L := ⟨_, rfl⟩
  rw [show dueTo b 16 = L from hL] at HLN
  rw [hL] at HD
  have hsv : servB bs k b = if L.length = 0 then bs else bs.set k 0 := by unfold servB; rw [hL]
  rw [hL]
  have HSV := Lib.hid hsv
  have hL16 : L.length ≤ 16 := by have := HLN.out; omega
  clear h hT hne hk hL hsv hlen
  go_enter Try.func64, Try.ntmps64
  go_wp2_with fail
  refine HD.out.mono ?_; rintro e w1 ⟨v, rfl, hS1, hR1⟩
  obtain ⟨A, cap, rfl, hcap, hf⟩ := hR1.form
  have H1 := Lib.hid (And.intro (And.intro hS1 hR1) (And.intro (H0.out.1.step hS1 (fun h => h)) (H0.out.2.1.step hS1 (fun h => h) (fun h => h))))
  have HF := Lib.hid hf
  clear hS1 hR1 hf HD
  go_wp2
  go_loopw [15] (fun i wr => ∃ (j : Nat), j ≤ L.length ∧ i = .int .i64 (j : Int) ∧ Hid (∃ own', Step (fun x => x = c ∨ x = tc) own w own' wr ∧ ShAt own' c wr sp bs ∧ TlbAt own' tc td wr tp room (flushAll l (L.take j)) ∧ Rw 3 1 own' dd wr (.slice A L.length cap) L.length (L.map (.int .i64)))) (fun i _ => L.length - (intOf i).toNat)
  case atStart => exact ⟨0, by omega, rfl, _, H1.out.1.1.mono (fun _ h => h.elim), H1.out.2.1, H1.out.2.2, H1.out.1.2⟩
  case round =>
    obtain ⟨j, hj, rfl, HL⟩ := hrel
    clear H1
    by_cases hlt : j < L.length
    · obtain ⟨own2, hS, hSh, hT, hR⟩ := HL.out
      have hlt' : (j : Int) < (L.length : Int) := by omega
      have hget : L[j]? = some L[j] := List.getElem?_eq_getElem hlt
      obtain ⟨A', cap', he, _, hf2⟩ := hR.form
      cases he
      obtain ⟨g, o, rfl, _, _, _, hc⟩ := hf2 (by omega)
      have cj := hc j _ (by rw [List.getElem?_map, hget]; rfl)
      have htk : L.take (j + 1) = L.take j ++ [L[j]] := by rw [List.take_add_one, hget]; rfl
      generalize L[j] = id at *
      have HFl := Lib.hid (tlb_Flush hT H0.out.2.2.1.2.2 id)
      have HTK := Lib.hid htk
      have H2 := Lib.hid (And.intro hS (And.intro hSh hR))
      clear hget hf2 hc htk hS hSh hT hR HL
      go_wp2_with fail
      refine HFl.out.mono ?_; rintro e w3 ⟨rfl, own3, hS3, hT3⟩
      have h3 := H2.out.1.trans (hS3.mono (C' := fun x => x = c ∨ x = tc) (fun _ h => Or.inr h))
      have hne := H0.out.2.2.1
      rw [show flushT (flushAll l (L.take j)) id = flushAll l (L.take (j + 1)) from by rw [HTK.out, flushAll_snoc]] at hT3
      have H3 := Lib.hid (And.intro h3 (And.intro (H2.out.2.1.step hS3 (by omega)) (And.intro hT3 (H2.out.2.2.step hS3 hd1))))
      clear hS3 hT3 h3 hne HFl H2
      go_wp2
      exact ⟨⟨j + 1, by omega, by go_num, own3, H3.out⟩, by simp [intOf]; omega⟩
    · obtain rfl : j = L.length := by omega
      obtain ⟨own2, hS, hSh, hT, hR⟩ := HL.out
      rw [List.take_length] at hT
      obtain ⟨q, x0, lsp, lq, ho', hcc, hzz⟩ := hSh.cells
      have cb := hcc k b H0.out.2.2.2
      have hkl := (List.getElem?_eq_some_iff.1 H0.out.2.2.2).1
      have HKL := Lib.hid hkl
      have hzk := hzz k
      by_cases h0 : L.length = 0
      · have hsv := HSV.out
        rw [if_pos h0] at hsv
        have hz0 : ((L.length : Nat) : Int) = 0 := by omega
        have H2 := Lib.hid (show ∃ own', Step (fun x => x = c ∨ x = tc) own w own' _ ∧ ShAt own' c _ sp (servB bs k b) ∧ TlbAt own' tc td _ tp room (flushAll l L) from ⟨own2, hS, by rw [hsv]; exact hSh, hT⟩)
        have hl0 : decide (0 < L.length) = false := by simp [h0]
        clear hS hSh hT hR hcc hzz HL hsv hz0 hkl HF H0 HSV h0
        go_wp2
        go_ret
        exact ⟨rfl, H2.out⟩
      · have hsv := HSV.out
        rw [if_neg h0] at hsv
        have HSt := Lib.hid (au32_Store ⟨q, k, none⟩ _ 0 _ cb hzk)
        have hset := hSh.set (k := k) (b := 0) (Upd.refl _ _) (by omega) q x0
        have H2 := Lib.hid (show ∃ own', Step (fun x => x = c ∨ x = tc) own w own' _ ∧ ShAt own' c _ sp (servB bs k b) ∧ TlbAt own' tc td _ tp room (flushAll l L) from ⟨own2, hS.trans (hset.1.mono (fun _ h => Or.inl h)), by rw [hsv]; exact hset.2, hT.step hset.1 (fun e => H0.out.2.2.1.1 e.symm) (fun e => H0.out.2.2.1.2.1 e.symm)⟩)
        have hl0 : 0 < L.length := by omega
        have hlk : (k : Int) < (bs.length : Int) := by omega
        clear hS hSh hT hR hcc hzz HL hsv hset hkl HF H0 HSV h0
        go_wp2_with fail
        refine HSt.out.mono ?_; rintro e w3 ⟨rfl, rfl⟩
        clear HSt
        go_wp2
        go_ret
        exact ⟨rfl, H2.out⟩
end
end Go.Proofs.Ytpodeclkgcgpgaa
