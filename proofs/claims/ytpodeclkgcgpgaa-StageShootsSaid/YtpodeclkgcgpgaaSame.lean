import Derived.Test.YtpodeclkgcgpgaaTref
import Derived.Laws.StructEq
/- citadellaw00: SameInts, SameTrans, of lists that are the same. -/
namespace Go.Proofs.Ytpodeclkgcgpgaa
set_option linter.unusedVariables false
set_option linter.unusedSimpArgs false
open Go.RowKit
set_option maxRecDepth 100000

theorem Reads.beg {w : World} {B size n : Nat} {A : Option Addr} {xs : List Value} (h : Reads w B size A n xs) (hn : 0 < n) (hs : 0 < size) : ∃ b o, A = some ⟨b, o, none⟩ ∧ b < B ∧ ∀ j u, xs[j]? = some u → w.cell? ⟨b, o + j, none⟩ = some u := by
  obtain ⟨ad, rfl, hb, hc⟩ := h.2 hn
  have hl : 0 < xs.length := by rw [h.1]; exact Nat.mul_pos hn hs
  have h0 := hc 0 _ (List.getElem?_eq_getElem hl)
  obtain ⟨b, o, sp⟩ := ad
  cases sp with
  | some k =>
    simp only [Addr.add, if_true] at h0
    unfold World.cell? at h0
    split at h0 <;> simp at h0
  | none =>
    refine ⟨b, o, rfl, hb, fun j u hu => ?_⟩
    have := hc j u hu
    rwa [Addr.add_lit] at this
set_option maxHeartbeats 1000000 in
theorem same_ints {w : World} {A B : Option Addr} {a b ca cb : Nat} {l : List Int} (hl : l.length ≤ 4194304) (h1 : Reads w a 1 A l.length (l.map (.int .i64))) (h2 : Reads w b 1 B l.length (l.map (.int .i64))) :
    Calls Try.prog 70 #[.slice A l.length ca, .slice B l.length cb] w fun e w' => e = .returned (.bool true) ∧ ∃ k, w' = w.drewN k := by
  have H := Lib.hid (And.intro h1 h2)
  clear h1 h2
  go_enter Try.func70, Try.ntmps70
  go_wp2
  go_loopw [5] (fun i wr => ∃ (k : Nat), k ≤ l.length ∧ i = .int .i64 (k : Int) ∧ ∃ q, wr = w.drewN q) (fun i _ => l.length - (intOf i).toNat)
  case atStart => exact ⟨0, by omega, rfl, 0, rfl⟩
  case round =>
    obtain ⟨k, hk, rfl, q, rfl⟩ := hrel
    by_cases hlt : k < l.length
    · obtain ⟨b1, o1, rfl, _, hc1⟩ := H.out.1.beg (by omega) (by omega)
      obtain ⟨b2, o2, rfl, _, hc2⟩ := H.out.2.beg (by omega) (by omega)
      have hget : (l.map (Value.int .i64))[k]? = some (.int .i64 l[k]) := by rw [List.getElem?_map, List.getElem?_eq_getElem hlt]; rfl
      have h3 : w.cell? ⟨b1, o1 + k, none⟩ = some (.int .i64 l[k]) := hc1 k _ hget
      have h4 : w.cell? ⟨b2, o2 + k, none⟩ = some (.int .i64 l[k]) := hc2 k _ hget
      have hlt' : (k : Int) < (l.length : Int) := by omega
      generalize l[k] = x at *
      clear hc1 hc2 hget
      go_wp2_with fail
      refine wpE_region (S := fun (W' : World) => W' = (w.drewN q).drew) (s := 8) (by kernel_rfl) ?_
      have hS : (fun (W' : World) => W' = (w.drewN q).drew) _ := rfl
      refine wpE_take (i := 0) (oi := { dst := some 17, op := Go.Op.move (Go.Operand.tmp 0), type := 45, pos := "law.go:52", after := #[], guard := none }) (v := ?_) rfl (by kernel_rfl) (fun _ _ _ h => h) (Or.inl ⟨by rfl, fun W hW => ?_⟩) hS ?_
      rotate_left
      · (obtain rfl : W = (w.drewN q).drew := hW); go_simp; (try go_bits); (try rw [if_pos (by omega)]); (try with_reducible rfl)
      (try simp only [Act.put, List.setIfInBounds_toArray, List.set_cons_succ, List.set_cons_zero])
      refine wpE_take (i := 1) (oi := { dst := some 18, op := Go.Op.move (Go.Operand.tmp 5), type := 3, pos := "law.go:52", after := #[], guard := none }) (v := ?_) rfl (by kernel_rfl) (fun _ _ _ h => h) (Or.inl ⟨by rfl, fun W hW => ?_⟩) hS ?_
      rotate_left
      · (obtain rfl : W = (w.drewN q).drew := hW); go_simp; (try go_bits); (try rw [if_pos (by omega)]); (try with_reducible rfl)
      (try simp only [Act.put, List.setIfInBounds_toArray, List.set_cons_succ, List.set_cons_zero])
      refine wpE_take (i := 2) (oi := { dst := some 19, op := Go.Op.indexAddr 45 (Go.Operand.tmp 17) (Go.Operand.tmp 18), type := 0, pos := "law.go:52", after := #[{ on := 0, ground := Go.Ground.data }, { on := 1, ground := Go.Ground.data }], guard := none }) (v := ?_) rfl (by kernel_rfl) (fun _ _ _ h => h) (Or.inl ⟨by rfl, fun W hW => ?_⟩) hS ?_
      rotate_left
      · (obtain rfl : W = (w.drewN q).drew := hW); go_simp; (try go_bits); (try rw [if_pos (by omega)]); (try with_reducible rfl)
      (try simp only [Act.put, List.setIfInBounds_toArray, List.set_cons_succ, List.set_cons_zero])
      refine wpE_take (i := 3) (oi := { dst := some 20, op := Go.Op.load 3 (Go.Operand.tmp 19), type := 3, pos := "law.go:52", after := #[{ on := 2, ground := Go.Ground.data }], guard := none }) (v := ?_) rfl (by kernel_rfl) (fun _ _ _ h => h) (Or.inl ⟨by rfl, fun W hW => ?_⟩) hS ?_
      rotate_left
      · (obtain rfl : W = (w.drewN q).drew := hW); go_simp; (try go_bits); (try rw [if_pos (by omega)]); (try with_reducible rfl)
      (try simp only [Act.put, List.setIfInBounds_toArray, List.set_cons_succ, List.set_cons_zero])
      refine wpE_take (i := 4) (oi := { dst := some 21, op := Go.Op.move (Go.Operand.tmp 1), type := 45, pos := "law.go:52", after := #[], guard := none }) (v := ?_) rfl (by kernel_rfl) (fun _ _ _ h => h) (Or.inl ⟨by rfl, fun W hW => ?_⟩) hS ?_
      rotate_left
      · (obtain rfl : W = (w.drewN q).drew := hW); go_simp; (try go_bits); (try rw [if_pos (by omega)]); (try with_reducible rfl)
      (try simp only [Act.put, List.setIfInBounds_toArray, List.set_cons_succ, List.set_cons_zero])
      refine wpE_take (i := 5) (oi := { dst := some 22, op := Go.Op.move (Go.Operand.tmp 5), type := 3, pos := "law.go:52", after := #[], guard := none }) (v := ?_) rfl (by kernel_rfl) (fun _ _ _ h => h) (Or.inl ⟨by rfl, fun W hW => ?_⟩) hS ?_
      rotate_left
      · (obtain rfl : W = (w.drewN q).drew := hW); go_simp; (try go_bits); (try rw [if_pos (by omega)]); (try with_reducible rfl)
      (try simp only [Act.put, List.setIfInBounds_toArray, List.set_cons_succ, List.set_cons_zero])
      refine wpE_take (i := 6) (oi := { dst := some 23, op := Go.Op.indexAddr 45 (Go.Operand.tmp 21) (Go.Operand.tmp 22), type := 0, pos := "law.go:52", after := #[{ on := 4, ground := Go.Ground.data }, { on := 5, ground := Go.Ground.data }], guard := none }) (v := ?_) rfl (by kernel_rfl) (fun _ _ _ h => h) (Or.inl ⟨by rfl, fun W hW => ?_⟩) hS ?_
      rotate_left
      · (obtain rfl : W = (w.drewN q).drew := hW); go_simp; (try go_bits); (try rw [if_pos (by omega)]); (try with_reducible rfl)
      (try simp only [Act.put, List.setIfInBounds_toArray, List.set_cons_succ, List.set_cons_zero])
      refine wpE_take (i := 7) (oi := { dst := some 24, op := Go.Op.load 3 (Go.Operand.tmp 23), type := 3, pos := "law.go:52", after := #[{ on := 6, ground := Go.Ground.data }], guard := none }) (v := ?_) rfl (by kernel_rfl) (fun _ _ _ h => h) (Or.inl ⟨by rfl, fun W hW => ?_⟩) hS ?_
      rotate_left
      · (obtain rfl : W = (w.drewN q).drew := hW); go_simp; (try go_bits); (try rw [if_pos (by omega)]); (try with_reducible rfl)
      (try simp only [Act.put, List.setIfInBounds_toArray, List.set_cons_succ, List.set_cons_zero])
      refine wpE_last (oi := { dst := some 25, op := Go.Op.binOp Go.BinOp.neq 3 (Go.Operand.tmp 20) (Go.Operand.tmp 24) 3, type := 4, pos := "law.go:52", after := #[{ on := 3, ground := Go.Ground.data }, { on := 7, ground := Go.Ground.data }], guard := none }) rfl (by kernel_rfl) (by kernel_rfl) (by rfl) (fun K hK => ?_)
      go_simp; (try go_bits); refine hK _ _ ?_; clear hK K
      go_wp2
      exact ⟨⟨k + 1, by omega, by go_num, q + 1, rfl⟩, by simp [intOf]; omega⟩
    · obtain rfl : k = l.length := by omega
      go_wp2
      go_ret
      exact ⟨rfl, q, rfl⟩
theorem trans_eq (a b c d : Int) (w : World) : (Op.equalIn 10000 119 (.agg #[.int .i64 a, .int .u64 b, .int .u64 c, .int .i64 d]) (.agg #[.int .i64 a, .int .u64 b, .int .u64 c, .int .i64 d])).run Try.prog w = .ok true w := by
  have u3 := Try.underlying3
  have u30 := Try.underlying30
  have hS : Try.prog.underlying 119 = some (.struct (Try.prog.fieldsOf 119)) := by kernel_rfl
  have hp : Try.prog.stoodInHeld 119 = false := by kernel_rfl
  rw [show (10000 : Nat) = 9999 + 1 from rfl, run_equalIn_agg w 9999 119 _ _ hS hp]
  simp only [Program.fieldsOf, Try.underlying119]
  go_simp
set_option maxHeartbeats 1000000 in
theorem same_trans {w : World} {A B : Option Addr} {a b ca cb : Nat} {l : List Tr} (hl : l.length ≤ 1024) (h1 : Reads w a 4 A l.length (trsC l)) (h2 : Reads w b 4 B l.length (trsC l)) :
    Calls Try.prog 68 #[.slice A l.length ca, .slice B l.length cb] w fun e w' => e = .returned (.bool true) ∧ ∃ k, w' = w.drewN k := by
  have H := Lib.hid (And.intro h1 h2)
  clear h1 h2
  go_enter Try.func68, Try.ntmps68
  go_wp2
  go_loopw [5] (fun i wr => ∃ (k : Nat), k ≤ l.length ∧ i = .int .i64 (k : Int) ∧ ∃ q, wr = w.drewN q) (fun i _ => l.length - (intOf i).toNat)
  case atStart => exact ⟨0, by omega, rfl, 0, rfl⟩
  case round =>
    obtain ⟨k, hk, rfl, q, rfl⟩ := hrel
    by_cases hlt : k < l.length
    · obtain ⟨b1, o1, rfl, _, hc1⟩ := H.out.1.beg (by omega) (by omega)
      obtain ⟨b2, o2, rfl, _, hc2⟩ := H.out.2.beg (by omega) (by omega)
      obtain ⟨q0, q1, q2, q3⟩ := trsC_at l k _ (List.getElem?_eq_getElem hlt)
      have x0 : w.cell? ⟨b1, o1 + k * 4, none⟩ = _ := hc1 _ _ q0
      have x1 : w.cell? ⟨b1, o1 + (k * 4 + 1), none⟩ = _ := hc1 _ _ q1
      have x2 : w.cell? ⟨b1, o1 + (k * 4 + 2), none⟩ = _ := hc1 _ _ q2
      have x3 : w.cell? ⟨b1, o1 + (k * 4 + 3), none⟩ = _ := hc1 _ _ q3
      have y0 : w.cell? ⟨b2, o2 + k * 4, none⟩ = _ := hc2 _ _ q0
      have y1 : w.cell? ⟨b2, o2 + (k * 4 + 1), none⟩ = _ := hc2 _ _ q1
      have y2 : w.cell? ⟨b2, o2 + (k * 4 + 2), none⟩ = _ := hc2 _ _ q2
      have y3 : w.cell? ⟨b2, o2 + (k * 4 + 3), none⟩ = _ := hc2 _ _ q3
      simp only [← Nat.add_assoc] at x1 x2 x3 y1 y2 y3
      have hlt' : (k : Int) < (l.length : Int) := by omega
      generalize l[k] = x at *
      have te := trans_eq x.v x.p x.f x.r
      clear hc1 hc2 q0 q1 q2 q3
      go_wp2_with fail
      refine wpE_region (S := fun (W' : World) => W' = (w.drewN q).drew) (s := 8) (by kernel_rfl) ?_
      have hS : (fun (W' : World) => W' = (w.drewN q).drew) _ := rfl
      refine wpE_take (i := 0) (oi := { dst := some 17, op := Go.Op.move (Go.Operand.tmp 0), type := 124, pos := "law.go:64", after := #[], guard := none }) (v := ?_) rfl (by kernel_rfl) (fun _ _ _ h => h) (Or.inl ⟨by rfl, fun W hW => ?_⟩) hS ?_
      rotate_left
      · (obtain rfl : W = (w.drewN q).drew := hW); go_simp; (try go_bits); (try rw [if_pos (by omega)]); (try with_reducible rfl)
      (try simp only [Act.put, List.setIfInBounds_toArray, List.set_cons_succ, List.set_cons_zero])
      refine wpE_take (i := 1) (oi := { dst := some 18, op := Go.Op.move (Go.Operand.tmp 5), type := 3, pos := "law.go:64", after := #[], guard := none }) (v := ?_) rfl (by kernel_rfl) (fun _ _ _ h => h) (Or.inl ⟨by rfl, fun W hW => ?_⟩) hS ?_
      rotate_left
      · (obtain rfl : W = (w.drewN q).drew := hW); go_simp; (try go_bits); (try rw [if_pos (by omega)]); (try with_reducible rfl)
      (try simp only [Act.put, List.setIfInBounds_toArray, List.set_cons_succ, List.set_cons_zero])
      refine wpE_take (i := 2) (oi := { dst := some 19, op := Go.Op.indexAddr 124 (Go.Operand.tmp 17) (Go.Operand.tmp 18), type := 0, pos := "law.go:64", after := #[{ on := 0, ground := Go.Ground.data }, { on := 1, ground := Go.Ground.data }], guard := none }) (v := ?_) rfl (by kernel_rfl) (fun _ _ _ h => h) (Or.inl ⟨by rfl, fun W hW => ?_⟩) hS ?_
      rotate_left
      · (obtain rfl : W = (w.drewN q).drew := hW); go_simp; (try go_bits); (try rw [if_pos (by omega)]); (try with_reducible rfl)
      (try simp only [Act.put, List.setIfInBounds_toArray, List.set_cons_succ, List.set_cons_zero])
      refine wpE_take (i := 3) (oi := { dst := some 20, op := Go.Op.load 119 (Go.Operand.tmp 19), type := 119, pos := "law.go:64", after := #[{ on := 2, ground := Go.Ground.data }], guard := none }) (v := ?_) rfl (by kernel_rfl) (fun _ _ _ h => h) (Or.inl ⟨by rfl, fun W hW => ?_⟩) hS ?_
      rotate_left
      · (obtain rfl : W = (w.drewN q).drew := hW); go_simp; (try go_bits); (try rw [if_pos (by omega)]); (try with_reducible rfl)
      (try simp only [Act.put, List.setIfInBounds_toArray, List.set_cons_succ, List.set_cons_zero])
      refine wpE_take (i := 4) (oi := { dst := some 21, op := Go.Op.move (Go.Operand.tmp 1), type := 124, pos := "law.go:64", after := #[], guard := none }) (v := ?_) rfl (by kernel_rfl) (fun _ _ _ h => h) (Or.inl ⟨by rfl, fun W hW => ?_⟩) hS ?_
      rotate_left
      · (obtain rfl : W = (w.drewN q).drew := hW); go_simp; (try go_bits); (try rw [if_pos (by omega)]); (try with_reducible rfl)
      (try simp only [Act.put, List.setIfInBounds_toArray, List.set_cons_succ, List.set_cons_zero])
      refine wpE_take (i := 5) (oi := { dst := some 22, op := Go.Op.move (Go.Operand.tmp 5), type := 3, pos := "law.go:64", after := #[], guard := none }) (v := ?_) rfl (by kernel_rfl) (fun _ _ _ h => h) (Or.inl ⟨by rfl, fun W hW => ?_⟩) hS ?_
      rotate_left
      · (obtain rfl : W = (w.drewN q).drew := hW); go_simp; (try go_bits); (try rw [if_pos (by omega)]); (try with_reducible rfl)
      (try simp only [Act.put, List.setIfInBounds_toArray, List.set_cons_succ, List.set_cons_zero])
      refine wpE_take (i := 6) (oi := { dst := some 23, op := Go.Op.indexAddr 124 (Go.Operand.tmp 21) (Go.Operand.tmp 22), type := 0, pos := "law.go:64", after := #[{ on := 4, ground := Go.Ground.data }, { on := 5, ground := Go.Ground.data }], guard := none }) (v := ?_) rfl (by kernel_rfl) (fun _ _ _ h => h) (Or.inl ⟨by rfl, fun W hW => ?_⟩) hS ?_
      rotate_left
      · (obtain rfl : W = (w.drewN q).drew := hW); go_simp; (try go_bits); (try rw [if_pos (by omega)]); (try with_reducible rfl)
      (try simp only [Act.put, List.setIfInBounds_toArray, List.set_cons_succ, List.set_cons_zero])
      refine wpE_take (i := 7) (oi := { dst := some 24, op := Go.Op.load 119 (Go.Operand.tmp 23), type := 119, pos := "law.go:64", after := #[{ on := 6, ground := Go.Ground.data }], guard := none }) (v := ?_) rfl (by kernel_rfl) (fun _ _ _ h => h) (Or.inl ⟨by rfl, fun W hW => ?_⟩) hS ?_
      rotate_left
      · (obtain rfl : W = (w.drewN q).drew := hW); go_simp; (try go_bits); (try rw [if_pos (by omega)]); (try with_reducible rfl)
      (try simp only [Act.put, List.setIfInBounds_toArray, List.set_cons_succ, List.set_cons_zero])
      refine wpE_last (oi := { dst := some 25, op := Go.Op.binOp Go.BinOp.neq 119 (Go.Operand.tmp 20) (Go.Operand.tmp 24) 119, type := 4, pos := "law.go:64", after := #[{ on := 3, ground := Go.Ground.data }, { on := 7, ground := Go.Ground.data }], guard := none }) rfl (by kernel_rfl) (by kernel_rfl) (by rfl) (fun K hK => ?_)
      go_simp; (try go_bits); refine hK _ _ ?_; clear hK K
      go_wp2
      exact ⟨⟨k + 1, by omega, by go_num, q + 1, rfl⟩, by simp [intOf]; omega⟩
    · obtain rfl : k = l.length := by omega
      go_wp2
      go_ret
      exact ⟨rfl, q, rfl⟩
end Go.Proofs.Ytpodeclkgcgpgaa
