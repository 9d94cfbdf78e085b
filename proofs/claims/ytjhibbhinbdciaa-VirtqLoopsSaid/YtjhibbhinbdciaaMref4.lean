import Derived.Test.YtjhibbhinbdciaaMref3
/- Both memories: bytes, and whether they are the same. -/
namespace Go.Proofs.Ytjhibbhinbdciaa
set_option linter.unusedVariables false
open Go.RowKit
set_option maxRecDepth 100000

theorem u8_makeN (n : Nat) (hn : n ≤ 4194304) (w : World) : (Instr.makeSlice 56 (.int .i64 (n : Int)) (.int .i64 (n : Int))).run Try.prog w = .ok (.slice (some ⟨w.heap.size, 0, none⟩) n n) (w.alloc (.cells (Array.replicate n (.int .u8 0)) 5)) := by
  obtain ⟨ie, hi, hz, hs, hb⟩ := info_parts info_u8
  exact run_make1 (P := Try.prog) w 56 5 ie _ Try.underlying56 hi hz hs rfl .i64 .i64 n (by rw [hb]; omega) (by omega)
/-- a block that holds n bytes of m, from o on -/
def BytesAt (w : World) (b : Nat) (m : Nat → Int) (o n : Nat) : Prop := ∃ c, Blk w b 5 c ∧ c.size = n ∧ ∀ j, j < n → c[j]? = some (.int .u8 (m (o + j)))
theorem ram_Bytes {own : Nat → Nat} {c p base n : Nat} {m : Nat → Int} {w : World} (h : MemAt ramK own c w p base n m) (o s d : Nat) (hos : o + s ≤ n * 4096) (hd : d ≠ c) :
    Calls Try.prog 44 #[.pointer (some ⟨p, 0, none⟩), .int .u64 ((base + o : Nat) : Int), .int .i64 (s : Int)] w fun e w' =>
      ∃ b own', e = .returned (.tuple #[.slice (some ⟨b, 0, none⟩) s s, .bool true]) ∧ Step (fun _ => False) own w own' w' ∧ own' b = d ∧ BytesAt w' b m o s := by
  have hsz := h.sizes
  have HH := Lib.hid (ram_hasC h ((base + o : Nat) : Int) (s : Int) (by omega) (by omega) (by omega) (by omega))
  have h2 : hasR base n ((base + o : Nat) : Int) (s : Int) = true := hasR_iff.2 (by omega)
  have HR := Lib.hid h
  clear h
  go_enter Try.func44, Try.ntmps44
  go_wp2_with fail
  refine HH.out.mono ?_; rintro e w' ⟨rfl, k0, rfl⟩; rw [h2]
  go_wp2_with ((with_reducible show wpList _ _ _ ((⟨some 16, _, _, _, _, _⟩ : Oper) :: _) _ _); refine wpList_make rfl _ _ _ rfl _ _ rfl rfl (u8_makeN s (by omega) _) ?_)
  have hst : Step (fun _ => False) own w (ext own w d) ((w.drewN k0).alloc (.cells (Array.replicate s (.int .u8 0)) 5)) := ⟨((Upd.refl _ _).drewN k0).alloc _, fun b hb => ext_old _ _ _ hb⟩
  have hB : Blk ((w.drewN k0).alloc (.cells (Array.replicate s (.int .u8 0)) 5)) w.heap.size 5 (Array.replicate s (.int .u8 0)) := Blk.new (w.drewN k0) _ _
  have H0 := Lib.hid (And.intro hst (And.intro (HR.out.step hst (fun h => h)) (And.intro hB (show ext own w d w.heap.size = d from ext_new _ _ _ (Nat.le_refl _)))))
  have hbw : w.heap.size ≤ w.heap.size := Nat.le_refl _
  clear hst hB HH HR
  generalize hbb : w.heap.size = b at *
  generalize ((w.drewN k0).alloc (.cells (Array.replicate s (.int .u8 0)) 5)) = w1 at *
  generalize ext own w d = own1 at *
  go_loopw [19] (fun i wr => ∃ (k : Nat), k ≤ s ∧ i = .int .i64 (k : Int) ∧ Hid (Step (fun _ => False) own w own1 wr ∧ MemAt ramK own1 c wr p base n m ∧ ∃ cs, Blk wr b 5 cs ∧ cs.size = s ∧ (∀ j, j < k → cs[j]? = some (.int .u8 (m (o + j)))) ∧ own1 b = d)) (fun i _ => s - (intOf i).toNat)
  case atStart => exact ⟨0, by omega, rfl, H0.out.1, H0.out.2.1, _, H0.out.2.2.1, by simp, fun j hj => by omega, H0.out.2.2.2⟩
  case round =>
    obtain ⟨k, hk, rfl, HL⟩ := hrel
    by_cases hlt : k < s
    · obtain ⟨hS, hM, cs, hBk, hcs, hfs, hob⟩ := HL.out
      have hz := hBk.frozen k
      obtain ⟨ck, hck⟩ : ∃ u, cs[k]? = some u := ⟨_, Array.getElem?_eq_getElem (by omega)⟩
      have hcell := (hBk.cell k).trans hck
      have hG := Lib.hid (fun a ha => ram_get' hM (o + k) (by omega) a ha)
      have H1 := Lib.hid (And.intro hS (And.intro hM (And.intro hBk (And.intro hcs (And.intro hfs hob)))))
      clear hS hM hBk hfs hck HL H0
      go_wp2_with fail
      refine (hG.out _ (by go_num)).mono ?_; rintro e w' ⟨rfl, rfl⟩
      go_wp2
      have hst : Step (· = d) own1 wr own1 (wr.setCell ⟨b, k, none⟩ (.int .u8 (m (o + k)))) := ⟨(Upd.refl _ _).setCell (.inl H1.out.2.2.2.2.2) _, fun _ _ => rfl⟩
      refine ⟨⟨k + 1, by omega, by go_num, ⟨H1.out.1.upd.setCell (p := ⟨b, k, none⟩) (.inr (by show w.heap.size ≤ b; omega)) _, H1.out.1.old⟩, H1.out.2.1.step hst (by omega), _, H1.out.2.2.1.set_ k _, by simpa using hcs, fun j hj => ?_, H1.out.2.2.2.2.2⟩, by simp [intOf]; omega⟩
      by_cases e : j = k
      · subst e; rw [getElem?_set_eq _ (by omega)]
      · rw [getElem?_set_ne _ e]; exact H1.out.2.2.2.2.1 j (by omega)
    · obtain rfl : k = s := by omega
      go_wp2
      go_ret2
      obtain ⟨hS, hM, cs, hBk, hcs, hfs, hob⟩ := HL.out
      exact ⟨b, own1, rfl, hS, hob, cs, hBk, hcs, hfs⟩
theorem law_zero {w : World} {b : Nat} {m : Nat → Int} {o : Nat} (h : BytesAt w b m o 4096) (hz : ∀ j, j < 4096 → m (o + j) = 0) :
    Calls Try.prog 45 #[.slice (some ⟨b, 0, none⟩) 4096 4096] w fun e w' => e = .returned (.bool true) ∧ w = w' := by
  obtain ⟨cs, hB, hs, hc⟩ := h
  have HC := Lib.hid (fun k (hk : k < 4096) => show w.cell? ⟨b, k, none⟩ = some (.int .u8 0) from by rw [hB.cell, hc k hk, hz k hk])
  clear hB hc hz
  go_enter Try.func45, Try.ntmps45
  go_wp2
  go_loop [3] (fun i => ∃ (k : Nat), k ≤ 4096 ∧ i = .int .i64 (k : Int)) (fun i => 4096 - (intOf i).toNat)
  case atStart => exact ⟨0, by omega, rfl⟩
  case round =>
    obtain ⟨k, hk, rfl⟩ := hrel
    by_cases hlt : k < 4096
    · have hcell := HC.out k hlt
      have hlt' : (k : Int) < 4096 := by omega
      go_wp2
      go_round
      case rel => exact ⟨k + 1, by omega, by go_num⟩
      case measure => simp [intOf]; omega
    · obtain rfl : k = 4096 := by omega
      go_wp2
      go_ret
      exact ⟨rfl, rfl⟩
theorem law_SameBytes {w : World} {a b n ca cb : Nat} {m : Nat → Int} {o o' : Nat} (hn : n ≤ 4194304) (h : BytesAt w a m o n) (h' : BytesAt w b m o' n) (he : ∀ j, j < n → m (o + j) = m (o' + j)) :
    Calls Try.prog 46 #[.slice (some ⟨a, 0, none⟩) n ca, .slice (some ⟨b, 0, none⟩) n cb] w fun e w' => e = .returned (.bool true) ∧ ∃ k, w' = w.drewN k := by
  obtain ⟨cs, hB, hs, hc⟩ := h
  obtain ⟨cs', hB', hs', hc'⟩ := h'
  have HC := Lib.hid (fun k (hk : k < n) => And.intro (show w.cell? ⟨a, k, none⟩ = some (.int .u8 (m (o + k))) from by rw [hB.cell, hc k hk]) (show w.cell? ⟨b, k, none⟩ = some (.int .u8 (m (o + k))) from by rw [hB'.cell, hc' k hk, he k hk]))
  clear hB hc hB' hc' he
  go_enter Try.func46, Try.ntmps46
  go_wp2
  go_loopw [5] (fun i wr => ∃ (k : Nat), k ≤ n ∧ i = .int .i64 (k : Int) ∧ ∃ q, wr = w.drewN q) (fun i _ => n - (intOf i).toNat)
  case atStart => exact ⟨0, by omega, rfl, 0, rfl⟩
  case round =>
    obtain ⟨k, hk, rfl, q, rfl⟩ := hrel
    by_cases hlt : k < n
    · obtain ⟨h1, h2⟩ := HC.out k hlt
      have hlt' : (k : Int) < (n : Int) := by omega
      have h3 : (w.drewN q).cell? ⟨a, k, none⟩ = some (.int .u8 (m (o + k))) := h1
      have h4 : (w.drewN q).cell? ⟨b, k, none⟩ = some (.int .u8 (m (o + k))) := h2
      generalize m (o + k) = x at *
      go_wp2_with fail
      refine wpE_region (S := fun (W' : World) => W' = (w.drewN q).drew) (s := 8) (by kernel_rfl) ?_
      have hS : (fun (W' : World) => W' = (w.drewN q).drew) _ := rfl
      refine wpE_take (i := 0) (oi := { dst := some 17, op := Go.Op.move (Go.Operand.tmp 0), type := 56, pos := "law.go:28", after := #[], guard := none }) (v := ?_) rfl (by kernel_rfl) (fun _ _ _ h => h) (Or.inl ⟨by rfl, fun W hW => ?_⟩) hS ?_
      rotate_left
      · (obtain rfl : W = (w.drewN q).drew := hW); go_simp; (try go_bits); (try rw [if_pos (by omega)]); (try with_reducible rfl)
      (try simp only [Act.put, List.setIfInBounds_toArray, List.set_cons_succ, List.set_cons_zero])
      refine wpE_take (i := 1) (oi := { dst := some 18, op := Go.Op.move (Go.Operand.tmp 5), type := 3, pos := "law.go:28", after := #[], guard := none }) (v := ?_) rfl (by kernel_rfl) (fun _ _ _ h => h) (Or.inl ⟨by rfl, fun W hW => ?_⟩) hS ?_
      rotate_left
      · (obtain rfl : W = (w.drewN q).drew := hW); go_simp; (try go_bits); (try rw [if_pos (by omega)]); (try with_reducible rfl)
      (try simp only [Act.put, List.setIfInBounds_toArray, List.set_cons_succ, List.set_cons_zero])
      refine wpE_take (i := 2) (oi := { dst := some 19, op := Go.Op.indexAddr 56 (Go.Operand.tmp 17) (Go.Operand.tmp 18), type := 0, pos := "law.go:28", after := #[{ on := 0, ground := Go.Ground.data }, { on := 1, ground := Go.Ground.data }], guard := none }) (v := ?_) rfl (by kernel_rfl) (fun _ _ _ h => h) (Or.inl ⟨by rfl, fun W hW => ?_⟩) hS ?_
      rotate_left
      · (obtain rfl : W = (w.drewN q).drew := hW); go_simp; (try go_bits); (try rw [if_pos (by omega)]); (try with_reducible rfl)
      (try simp only [Act.put, List.setIfInBounds_toArray, List.set_cons_succ, List.set_cons_zero])
      refine wpE_take (i := 3) (oi := { dst := some 20, op := Go.Op.load 5 (Go.Operand.tmp 19), type := 5, pos := "law.go:28", after := #[{ on := 2, ground := Go.Ground.data }], guard := none }) (v := ?_) rfl (by kernel_rfl) (fun _ _ _ h => h) (Or.inl ⟨by rfl, fun W hW => ?_⟩) hS ?_
      rotate_left
      · (obtain rfl : W = (w.drewN q).drew := hW); go_simp; (try go_bits); (try rw [if_pos (by omega)]); (try with_reducible rfl)
      (try simp only [Act.put, List.setIfInBounds_toArray, List.set_cons_succ, List.set_cons_zero])
      refine wpE_take (i := 4) (oi := { dst := some 21, op := Go.Op.move (Go.Operand.tmp 1), type := 56, pos := "law.go:28", after := #[], guard := none }) (v := ?_) rfl (by kernel_rfl) (fun _ _ _ h => h) (Or.inl ⟨by rfl, fun W hW => ?_⟩) hS ?_
      rotate_left
      · (obtain rfl : W = (w.drewN q).drew := hW); go_simp; (try go_bits); (try rw [if_pos (by omega)]); (try with_reducible rfl)
      (try simp only [Act.put, List.setIfInBounds_toArray, List.set_cons_succ, List.set_cons_zero])
      refine wpE_take (i := 5) (oi := { dst := some 22, op := Go.Op.move (Go.Operand.tmp 5), type := 3, pos := "law.go:28", after := #[], guard := none }) (v := ?_) rfl (by kernel_rfl) (fun _ _ _ h => h) (Or.inl ⟨by rfl, fun W hW => ?_⟩) hS ?_
      rotate_left
      · (obtain rfl : W = (w.drewN q).drew := hW); go_simp; (try go_bits); (try rw [if_pos (by omega)]); (try with_reducible rfl)
      (try simp only [Act.put, List.setIfInBounds_toArray, List.set_cons_succ, List.set_cons_zero])
      refine wpE_take (i := 6) (oi := { dst := some 23, op := Go.Op.indexAddr 56 (Go.Operand.tmp 21) (Go.Operand.tmp 22), type := 0, pos := "law.go:28", after := #[{ on := 4, ground := Go.Ground.data }, { on := 5, ground := Go.Ground.data }], guard := none }) (v := ?_) rfl (by kernel_rfl) (fun _ _ _ h => h) (Or.inl ⟨by rfl, fun W hW => ?_⟩) hS ?_
      rotate_left
      · (obtain rfl : W = (w.drewN q).drew := hW); go_simp; (try go_bits); (try rw [if_pos (by omega)]); (try with_reducible rfl)
      (try simp only [Act.put, List.setIfInBounds_toArray, List.set_cons_succ, List.set_cons_zero])
      refine wpE_take (i := 7) (oi := { dst := some 24, op := Go.Op.load 5 (Go.Operand.tmp 23), type := 5, pos := "law.go:28", after := #[{ on := 6, ground := Go.Ground.data }], guard := none }) (v := ?_) rfl (by kernel_rfl) (fun _ _ _ h => h) (Or.inl ⟨by rfl, fun W hW => ?_⟩) hS ?_
      rotate_left
      · (obtain rfl : W = (w.drewN q).drew := hW); go_simp; (try go_bits); (try rw [if_pos (by omega)]); (try with_reducible rfl)
      (try simp only [Act.put, List.setIfInBounds_toArray, List.set_cons_succ, List.set_cons_zero])
      refine wpE_last (oi := { dst := some 25, op := Go.Op.binOp Go.BinOp.neq 5 (Go.Operand.tmp 20) (Go.Operand.tmp 24) 5, type := 4, pos := "law.go:28", after := #[{ on := 3, ground := Go.Ground.data }, { on := 7, ground := Go.Ground.data }], guard := none }) rfl (by kernel_rfl) (by kernel_rfl) (by rfl) (fun K hK => ?_)
      go_simp; (try go_bits); refine hK _ _ ?_; clear hK K
      go_wp2
      exact ⟨⟨k + 1, by omega, by go_num, q + 1, rfl⟩, by simp [intOf]; omega⟩
    · obtain rfl : k = n := by omega
      go_wp2
      go_ret
      exact ⟨rfl, q, rfl⟩
end Go.Proofs.Ytjhibbhinbdciaa
