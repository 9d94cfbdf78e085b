import Derived.Test.YtlgcplekcmocbaaMref5
import Derived.Test.YtlgcplekcmocbaaTlb
/- The document's memory: Page; bytes that are the same, of two memories. -/
namespace Go.Proofs.Ytlgcplekcmocbaa
set_option linter.unusedVariables false
set_option linter.unusedSimpArgs false
open Go.RowKit
set_option maxRecDepth 100000

theorem law_SameBytes2 {w : World} {a b oa ob n ca cb : Nat} {f : Nat → Int} (hn : n ≤ 4194304) (ha : ∀ k, k < n → w.cell? ⟨a, oa + k, none⟩ = some (.int .u8 (f k))) (hb : ∀ k, k < n → w.cell? ⟨b, ob + k, none⟩ = some (.int .u8 (f k))) :
    Calls Try.prog 27 #[.slice (some ⟨a, oa, none⟩) n ca, .slice (some ⟨b, ob, none⟩) n cb] w fun e w' => e = .returned (.bool true) ∧ ∃ k, w' = w.drewN k := by
  have HC := Lib.hid (fun k (hk : k < n) => And.intro (ha k hk) (hb k hk))
  clear ha hb
  go_enter Try.func27, Try.ntmps27
  go_wp2
  go_loopw [5] (fun i wr => ∃ (k : Nat), k ≤ n ∧ i = .int .i64 (k : Int) ∧ ∃ q, wr = w.drewN q) (fun i _ => n - (intOf i).toNat)
  case atStart => exact ⟨0, by omega, rfl, 0, rfl⟩
  case round =>
    obtain ⟨k, hk, rfl, q, rfl⟩ := hrel
    by_cases hlt : k < n
    · obtain ⟨h1, h2⟩ := HC.out k hlt
      have hlt' : (k : Int) < (n : Int) := by omega
      have h3 : (w.drewN q).cell? ⟨a, oa + k, none⟩ = some (.int .u8 (f k)) := h1
      have h4 : (w.drewN q).cell? ⟨b, ob + k, none⟩ = some (.int .u8 (f k)) := h2
      generalize f k = x at *
      go_wp2_with fail
      refine wpE_region (S := fun (W' : World) => W' = (w.drewN q).drew) (s := 8) (by kernel_rfl) ?_
      have hS : (fun (W' : World) => W' = (w.drewN q).drew) _ := rfl
      refine wpE_take (i := 0) (oi := { dst := some 17, op := Go.Op.move (Go.Operand.tmp 0), type := 68, pos := "law.go:28", after := #[], guard := none }) (v := ?_) rfl (by kernel_rfl) (fun _ _ _ h => h) (Or.inl ⟨by rfl, fun W hW => ?_⟩) hS ?_
      rotate_left
      · (obtain rfl : W = (w.drewN q).drew := hW); go_simp; (try go_bits); (try rw [if_pos (by omega)]); (try with_reducible rfl)
      (try simp only [Act.put, List.setIfInBounds_toArray, List.set_cons_succ, List.set_cons_zero])
      refine wpE_take (i := 1) (oi := { dst := some 18, op := Go.Op.move (Go.Operand.tmp 5), type := 3, pos := "law.go:28", after := #[], guard := none }) (v := ?_) rfl (by kernel_rfl) (fun _ _ _ h => h) (Or.inl ⟨by rfl, fun W hW => ?_⟩) hS ?_
      rotate_left
      · (obtain rfl : W = (w.drewN q).drew := hW); go_simp; (try go_bits); (try rw [if_pos (by omega)]); (try with_reducible rfl)
      (try simp only [Act.put, List.setIfInBounds_toArray, List.set_cons_succ, List.set_cons_zero])
      refine wpE_take (i := 2) (oi := { dst := some 19, op := Go.Op.indexAddr 68 (Go.Operand.tmp 17) (Go.Operand.tmp 18), type := 0, pos := "law.go:28", after := #[{ on := 0, ground := Go.Ground.data }, { on := 1, ground := Go.Ground.data }], guard := none }) (v := ?_) rfl (by kernel_rfl) (fun _ _ _ h => h) (Or.inl ⟨by rfl, fun W hW => ?_⟩) hS ?_
      rotate_left
      · (obtain rfl : W = (w.drewN q).drew := hW); go_simp; (try go_bits); (try rw [if_pos (by omega)]); (try with_reducible rfl)
      (try simp only [Act.put, List.setIfInBounds_toArray, List.set_cons_succ, List.set_cons_zero])
      refine wpE_take (i := 3) (oi := { dst := some 20, op := Go.Op.load 5 (Go.Operand.tmp 19), type := 5, pos := "law.go:28", after := #[{ on := 2, ground := Go.Ground.data }], guard := none }) (v := ?_) rfl (by kernel_rfl) (fun _ _ _ h => h) (Or.inl ⟨by rfl, fun W hW => ?_⟩) hS ?_
      rotate_left
      · (obtain rfl : W = (w.drewN q).drew := hW); go_simp; (try go_bits); (try rw [if_pos (by omega)]); (try with_reducible rfl)
      (try simp only [Act.put, List.setIfInBounds_toArray, List.set_cons_succ, List.set_cons_zero])
      refine wpE_take (i := 4) (oi := { dst := some 21, op := Go.Op.move (Go.Operand.tmp 1), type := 68, pos := "law.go:28", after := #[], guard := none }) (v := ?_) rfl (by kernel_rfl) (fun _ _ _ h => h) (Or.inl ⟨by rfl, fun W hW => ?_⟩) hS ?_
      rotate_left
      · (obtain rfl : W = (w.drewN q).drew := hW); go_simp; (try go_bits); (try rw [if_pos (by omega)]); (try with_reducible rfl)
      (try simp only [Act.put, List.setIfInBounds_toArray, List.set_cons_succ, List.set_cons_zero])
      refine wpE_take (i := 5) (oi := { dst := some 22, op := Go.Op.move (Go.Operand.tmp 5), type := 3, pos := "law.go:28", after := #[], guard := none }) (v := ?_) rfl (by kernel_rfl) (fun _ _ _ h => h) (Or.inl ⟨by rfl, fun W hW => ?_⟩) hS ?_
      rotate_left
      · (obtain rfl : W = (w.drewN q).drew := hW); go_simp; (try go_bits); (try rw [if_pos (by omega)]); (try with_reducible rfl)
      (try simp only [Act.put, List.setIfInBounds_toArray, List.set_cons_succ, List.set_cons_zero])
      refine wpE_take (i := 6) (oi := { dst := some 23, op := Go.Op.indexAddr 68 (Go.Operand.tmp 21) (Go.Operand.tmp 22), type := 0, pos := "law.go:28", after := #[{ on := 4, ground := Go.Ground.data }, { on := 5, ground := Go.Ground.data }], guard := none }) (v := ?_) rfl (by kernel_rfl) (fun _ _ _ h => h) (Or.inl ⟨by rfl, fun W hW => ?_⟩) hS ?_
      rotate_left
      · (obtain rfl : W = (w.drewN q).drew := hW); go_simp; (try go_bits); (try rw [if_pos (by omega)]); (try with_reducible rfl)
      (try simp only [Act.put, List.setIfInBounds_toArray, List.set_cons_succ, List.set_cons_zero])
      refine wpE_take (i := 7) (oi := { dst := some 24, op := Go.Op.load 5 (Go.Operand.tmp 23), type := 5, pos := "law.go:28", after := #[{ on := 6, ground := Go.Ground.data }], guard := none }) (v := ?_) rfl (by kernel_rfl) (fun _ _ _ h => h) (Or.inl ⟨by rfl, fun W hW => ?_⟩) hS ?_
      rotate_left
      · (obtain rfl : W = (w.drewN q).drew := hW); go_simp; (try go_bits); (try rw [if_pos (by omega)]); (try with_reducible rfl)
      (try simp only [Act.put, List.setIfInBounds_toArray, List.set_cons_succ, List.set_cons_zero])
      refine wpE_last (oi := { dst := some 25, op := Go.Op.binOp Go.BinOp.neq 5 (Go.Operand.tmp 20) (Go.Operand.tmp 24) 5, type := 4, pos := "law.go:28", after := #[{ on := 3, ground := Go.Ground.data }, { on := 7, ground := Go.Ground.data }], guard := none }) rfl (by kernel_rfl) (by kernel_rfl) (by rfl) (fun K hK => ?_)
      go_simp; (try go_bits); refine hK _ _ ?_; clear hK K
      go_wp2
      exact ⟨⟨k + 1, by omega, by go_num, q + 1, rfl⟩, by simp [intOf]; omega⟩
    · obtain rfl : k = n := by omega
      go_wp2
      go_ret
      exact ⟨rfl, q, rfl⟩
/-- n bytes from o on -/
def bytesL (m : Nat → Int) (o n : Nat) : List Value := (List.range n).map (fun j => .int .u8 (m (o + j)))
theorem bytesL_len (m : Nat → Int) (o n : Nat) : (bytesL m o n).length = n := by simp [bytesL]
theorem bytesL_at (m : Nat → Int) (o n j : Nat) (h : j < n) : (bytesL m o n)[j]? = some (.int .u8 (m (o + j))) := by
  unfold bytesL
  rw [List.getElem?_map, List.getElem?_range h]; rfl
theorem bytesL_one (m : Nat → Int) (o n : Nat) : ∀ u ∈ bytesL m o n, u.oneCell' = true := by
  intro u hu
  obtain ⟨j, _, rfl⟩ := List.mem_map.1 hu
  rfl
theorem bytesL_zero (m : Nat → Int) (o n : Nat) (h : ∀ j, j < n → m (o + j) = 0) : bytesL m o n = List.replicate n (.int .u8 0) := by
  apply List.ext_getElem?
  intro j
  rcases Nat.lt_or_ge j n with hj | hj
  · rw [bytesL_at m o n j hj, h j hj, List.getElem?_replicate, if_pos hj]
  · rw [List.getElem?_eq_none (by rw [bytesL_len]; exact hj), List.getElem?_eq_none (by simp; exact hj)]
set_option maxHeartbeats 1000000 in
theorem mref_Page {own : Nat → Nat} {c p base n : Nat} {m : Nat → Int} {w : World} (h : MemAt refK own c w p base n m) (f : Nat) (hf : f < n) (d : Nat) (hd : d ≠ c) :
    Calls Try.prog 28 #[.pointer (some ⟨p, 0, none⟩), .int .i64 (f : Int)] w fun e w' => ∃ v own', e = .returned v ∧ Step (fun _ => False) own w own' w' ∧ Rw 5 1 own' d w' v 4096 (bytesL m (f * 4096) 4096) := by
  obtain ⟨q, fs, hIn, rfl⟩ := h
  have hc1 : w.cell? ⟨p, 1, none⟩ = some (.int .i64 (fs.length : Int)) := hIn.bp.cell 1
  have hc2 : w.cell? ⟨p, 2, none⟩ = some (.slice (some ⟨q, 0, none⟩) fs.length fs.length) := hIn.bp.cell 2
  have hq := hIn.cellq f
  simp only [List.getElem?_eq_getElem hf, Option.map_some] at hq
  have hn := hIn.hn
  have hf2 : (f : Int) < (fs.length : Int) := by omega
  have hfn : ¬ ((f : Int) < 0) := by omega
  cases hfs : fs[f] with
  | none =>
    rw [hfs] at hq
    have hz : ∀ j, j < 4096 → m (f * 4096 + j) = 0 := hIn.gone f (by rw [List.getElem?_eq_getElem hf, hfs])
    have hR : Rw 5 1 (ext own w d) d (w.alloc (.cells (Array.replicate 4096 (.int .u8 0)) 5)) (.slice (some ⟨w.heap.size, 0, none⟩) 4096 4096) 4096 (bytesL m (f * 4096) 4096) := by
      refine ⟨by rw [bytesL_len], .inr ⟨w.heap.size, 0, 4096, _, rfl, ext_new _ _ _ (Nat.le_refl _), Blk.new w _ _, Nat.le_refl _, by unfold maxLen; omega, by simp, ?_⟩⟩
      rw [bytesL_zero _ _ _ hz, List.drop_zero, Array.toList_replicate, List.take_of_length_le (by simp)]
    have HR := Lib.hid hR
    clear hIn hz hR hfs
    have hq2 : w.cell? ⟨q, f, none⟩ = some (.slice none 0 0) := hq
    clear hq
    have qn := bytes_nil
    go_enter Try.func28, Try.ntmps28
    go_wp2_with ((with_reducible show wpList _ _ _ ((⟨some 23, _, _, _, _, _⟩ : Oper) :: _) _ _); refine wpList_make rfl _ _ _ rfl _ _ rfl rfl (u8_makeN 4096 (by decide) _) ?_)
    go_ret
    exact ⟨_, rfl, ext own w d, ⟨(Upd.refl _ _).alloc _, fun b hb => ext_old _ _ _ hb⟩, HR.out⟩
  | some b =>
    rw [hfs] at hq
    obtain ⟨hob, cc, hBk, hcs, hcc⟩ := hIn.there f b (by rw [List.getElem?_eq_getElem hf, hfs])
    have hrd : Reads w w.heap.size 1 (some ⟨b, 0, none⟩) 4096 (bytesL m (f * 4096) 4096) := by
      refine ⟨by rw [bytesL_len], fun _ => ⟨_, rfl, hBk.lt, fun j u hu => ?_⟩⟩
      have hj : j < 4096 := by have := (List.getElem?_eq_some_iff.1 hu).1; rw [bytesL_len] at this; exact this
      rw [bytesL_at m _ _ j hj] at hu
      cases hu
      rw [show (⟨b, 0, none⟩ : Addr).add j = ⟨b, j, none⟩ from by unfold Addr.add; split <;> simp_all, hBk.cell, hcc j hj]
    obtain ⟨i, hi, hz, hs, hby⟩ := info_parts info_u8
    have HI := Lib.hid (And.intro hi (And.intro hz (And.intro hs hby)))
    have HRD := Lib.hid hrd
    have hq2 : w.cell? ⟨q, f, none⟩ = some (.slice (some ⟨b, 0, none⟩) 4096 4096) := hq
    clear hIn hBk hcc hrd hi hz hs hby hq hfs
    have qn := bytes_nil
    go_enter Try.func28, Try.ntmps28
    go_wp2_with ((with_reducible show wpList _ _ _ ((⟨some 31, _, _, _, _, _⟩ : Oper) :: _) _ _); refine wpList_append_rw rfl (.const (.slice none 0 0)) (.tmp 30) _ rfl 5 i _ 1 1 Try.underlying68 HI.out.1 HI.out.2.1 HI.out.2.2.1 HI.out.2.2.2 rfl (by omega) (own := up1 own w) (d := 0) (.slice none 0 0) 0 [] rfl (Rw.nil _ _ _ _ _) w.heap.size (some ⟨b, 0, none⟩) 4096 4096 (bytesL m (f * 4096) 4096) rfl HRD.out (bytesL_one _ _ _) (by unfold maxLen; omega) (by omega) ?_)
    intro v2 w5 hst5 hrow5
    have H5 := Lib.hid (And.intro (up1_upd hst5) (up1_row hst5 hrow5 d))
    obtain ⟨A2, cap2, rfl, _⟩ := hrow5.form
    clear hst5 hrow5
    go_wp2
    go_ret
    exact ⟨_, ext own w d, rfl, ⟨H5.out.1, fun b hb => ext_old _ _ _ hb⟩, H5.out.2⟩
end Go.Proofs.Ytlgcplekcmocbaa
