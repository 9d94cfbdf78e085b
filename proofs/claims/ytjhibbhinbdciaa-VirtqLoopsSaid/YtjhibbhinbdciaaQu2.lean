import Derived.Test.YtjhibbhinbdciaaQu1
/- A virtqueue: Quiet, next. -/
namespace Go.Proofs.Ytjhibbhinbdciaa
set_option linter.unusedVariables false
set_option linter.unusedSimpArgs false
open Go.RowKit
set_option maxRecDepth 100000
theorem m_Read (p : Nat) (w : World) : (method 230 23 (.pointer (some ⟨p, 0, none⟩)) "Read").run Try.prog w = .ok (18, .pointer (some ⟨p, 0, none⟩)) w := by kernel_rfl
theorem m_Write (p : Nat) (w : World) : (method 230 23 (.pointer (some ⟨p, 0, none⟩)) "Write").run Try.prog w = .ok (24, .pointer (some ⟨p, 0, none⟩)) w := by kernel_rfl
theorem m_Has (p : Nat) (w : World) : (method 230 23 (.pointer (some ⟨p, 0, none⟩)) "Has").run Try.prog w = .ok (41, .pointer (some ⟨p, 0, none⟩)) w := by kernel_rfl
theorem n_Read (p : Nat) (w : World) : (nilAhead 230 23 (.pointer (some ⟨p, 0, none⟩)) "Read").run Try.prog w = .ok (some false) w := by kernel_rfl
theorem n_Write (p : Nat) (w : World) : (nilAhead 230 23 (.pointer (some ⟨p, 0, none⟩)) "Write").run Try.prog w = .ok (some false) w := by kernel_rfl
theorem c_Read (args : Array Value) (w : World) : (callFunc 18 args).run Try.prog w = .ok (.enter 18 args) w := by kernel_rfl
theorem c_Write (args : Array Value) (w : World) : (callFunc 24 args).run Try.prog w = .ok (.enter 24 args) w := by kernel_rfl
theorem c_Has (args : Array Value) (w : World) : (callFunc 41 args).run Try.prog w = .ok (.enter 41 args) w := by kernel_rfl
theorem and1_u (v : Int) (h0 : 0 ≤ v) (h1 : v < 18446744073709551616) : bits .and .u64 v 1 = v % 2 := by
  have e : (2 : Int) ^ 64 = 18446744073709551616 := by decide
  exact bits_mask .u64 64 (by decide) (fun n a b => IntWalk.u64_in n (by rw [e] at b; omega)) 1 (by decide) v h0 (by rw [e]; exact h1)
def memV (mp : Nat) : Value := .iface 23 (.pointer (some ⟨mp, 0, none⟩))
section
variable {own own' : Nat → Nat} {c cm p mp base n : Nat} {w w' : World} {q : Qu} {m : Nat → Int}
theorem rd_bd (hm : ∀ x, 0 ≤ m x ∧ m x < 256) (base n : Nat) (a s : Int) (hs : s = 2 ∨ s = 4 ∨ s = 8) : 0 ≤ (rdR base n m a s).1 ∧ (rdR base n m a s).1 < 256 ^ s.toNat := by
  unfold rdR
  split
  · exact ⟨num_nonneg hm _ _, num_lt hm _ _⟩
  · rcases hs with rfl | rfl | rfl <;> exact ⟨by decide, by decide⟩
theorem QAt.putTk (h : QAt own c w p q) (x : Nat) : QAt own c (w.setCell ⟨p, 6, none⟩ (.int .u16 (x : Int))) p { q with tk := x } ∧ Step (· = c) own w own (w.setCell ⟨p, 6, none⟩ (.int .u16 (x : Int))) :=
  ⟨⟨by have := h.1.set_ 6 (.int .u16 (x : Int)); exact this, h.2⟩, ⟨(Upd.refl (fun b => own b = c) _).setCell (p := ⟨p, 6, none⟩) (.inl h.2) _, fun _ _ => rfl⟩⟩
theorem QAt.putGv (h : QAt own c w p q) (x : Nat) : QAt own c (w.setCell ⟨p, 7, none⟩ (.int .u16 (x : Int))) p { q with gv := x } ∧ Step (· = c) own w own (w.setCell ⟨p, 7, none⟩ (.int .u16 (x : Int))) :=
  ⟨⟨by have := h.1.set_ 7 (.int .u16 (x : Int)); exact this, h.2⟩, ⟨(Upd.refl (fun b => own b = c) _).setCell (p := ⟨p, 7, none⟩) (.inl h.2) _, fun _ _ => rfl⟩⟩
theorem QAt.putDe (h : QAt own c w p q) (x : Bool) : QAt own c (w.setCell ⟨p, 1, none⟩ (.bool x)) p { q with de := x } ∧ Step (· = c) own w own (w.setCell ⟨p, 1, none⟩ (.bool x)) :=
  ⟨⟨by have := h.1.set_ 1 (.bool x); exact this, h.2⟩, ⟨(Upd.refl (fun b => own b = c) _).setCell (p := ⟨p, 1, none⟩) (.inl h.2) _, fun _ _ => rfl⟩⟩
def quietQ (base n : Nat) (m : Nat → Int) (q : Qu) : Bool := q.rd && ((rdR base n m (q.av : Int) 2).1 % 2 == 1)
set_option maxHeartbeats 1000000 in
theorem q_Quiet (h : QAt own c w p q) (hM : MemAt ramK own cm w mp base n m) (hav : q.av < 1152921504606846976) :
    Calls Try.prog 23 #[.pointer (some ⟨p, 0, none⟩), memV mp] w fun e w' => e = .returned (.bool (quietQ base n m q)) ∧ ∃ k, w' = w.drewN k := by
  obtain ⟨c0, _, _, _, c4, _⟩ := h.cells
  have hbd := rd_bd hM.bd base n (q.av : Int) 2 (.inl rfl)
  obtain ⟨rd, hrd⟩ : ∃ r, q.rd = r := ⟨_, rfl⟩
  have HR := Lib.hid (ram_Read (show MemAt ramK own cm w.drew mp base n m from hM.step (Step.refl (fun _ => False) own w).drew (fun h => h)) (q.av : Int) 2 (by omega) (by omega) (by decide) (by decide))
  have HQ := Lib.hid (show quietQ base n m q = (rd && ((rdR base n m (q.av : Int) 2).1 % 2 == 1)) by unfold quietQ; rw [hrd])
  rw [hrd] at c0
  clear h hM hrd
  unfold memV
  cases rd with
  | false =>
    go_enter Try.func23, Try.ntmps23
    go_wp2
    go_ret
    rw [HQ.out]
    exact ⟨rfl, 0, rfl⟩
  | true =>
    obtain ⟨V, hV⟩ : ∃ V, (rdR base n m (q.av : Int) 2) = V := ⟨_, rfl⟩
    rw [hV] at hbd
    have HV := Lib.hid hV
    have hb1 : bits .and .u64 V.1 1 = V.1 % 2 := by
      have h9 : (256 : Int) ^ (2 : Int).toNat = 65536 := by decide
      rw [h9] at hbd
      exact and1_u V.1 hbd.1 (by omega)
    clear hbd hV
    go_enter Try.func23, Try.ntmps23
    go_wp2_with fail
    have hnl := n_Read mp
    refine wpE_region (S := fun (W' : World) => W'.cell? ⟨p, 4, none⟩ = some (.int .u64 (q.av : Int))) (s := 13) (by kernel_rfl) ?_
    have hS : (fun (W' : World) => W'.cell? ⟨p, 4, none⟩ = some (.int .u64 (q.av : Int))) _ := c4
    refine wpE_take (i := 0) (oi := { dst := some 13, op := Go.Op.move (Go.Operand.tmp 1), type := 84, pos := "virtq.go:158", after := #[], guard := none }) (v := ?_) rfl (by kernel_rfl) (fun _ _ _ h => h) (Or.inl ⟨by rfl, fun W hW => ?_⟩) hS ?_
    rotate_left
    · have hw := hW; go_simp; (try go_bits); (try rw [if_pos (by omega)]); (try with_reducible rfl)
    (try simp only [Act.put, List.setIfInBounds_toArray, List.set_cons_succ, List.set_cons_zero])
    refine wpE_take (i := 1) (oi := { dst := some 14, op := Go.Op.move (Go.Operand.tmp 0), type := 30, pos := "virtq.go:158", after := #[], guard := none }) (v := ?_) rfl (by kernel_rfl) (fun _ _ _ h => h) (Or.inl ⟨by rfl, fun W hW => ?_⟩) hS ?_
    rotate_left
    · have hw := hW; go_simp; (try go_bits); (try rw [if_pos (by omega)]); (try with_reducible rfl)
    (try simp only [Act.put, List.setIfInBounds_toArray, List.set_cons_succ, List.set_cons_zero])
    refine wpE_take (i := 2) (oi := { dst := some 15, op := Go.Op.nilCheck (Go.Operand.tmp 14), type := 0, pos := "virtq.go:158", after := #[{ on := 1, ground := Go.Ground.data }], guard := none }) (v := ?_) rfl (by kernel_rfl) (fun _ _ _ h => h) (Or.inl ⟨by rfl, fun W hW => ?_⟩) hS ?_
    rotate_left
    · have hw := hW; go_simp; (try go_bits); (try rw [if_pos (by omega)]); (try with_reducible rfl)
    (try simp only [Act.put, List.setIfInBounds_toArray, List.set_cons_succ, List.set_cons_zero])
    refine wpE_take (i := 3) (oi := { dst := some 16, op := Go.Op.fieldAddr 82 (Go.Operand.tmp 15) 4, type := 0, pos := "virtq.go:158", after := #[{ on := 2, ground := Go.Ground.data }], guard := none }) (v := ?_) rfl (by kernel_rfl) (fun _ _ _ h => h) (Or.inl ⟨by rfl, fun W hW => ?_⟩) hS ?_
    rotate_left
    · have hw := hW; go_simp; (try go_bits); (try rw [if_pos (by omega)]); (try with_reducible rfl)
    (try simp only [Act.put, List.setIfInBounds_toArray, List.set_cons_succ, List.set_cons_zero])
    refine wpE_take (i := 4) (oi := { dst := some 17, op := Go.Op.load 29 (Go.Operand.tmp 16), type := 29, pos := "virtq.go:158", after := #[{ on := 3, ground := Go.Ground.data }], guard := none }) (v := ?_) rfl (by kernel_rfl) (fun _ _ _ h => h) (Or.inl ⟨by rfl, fun W hW => ?_⟩) hS ?_
    rotate_left
    · have hw := hW; go_simp; (try go_bits); (try rw [if_pos (by omega)]); (try with_reducible rfl)
    (try simp only [Act.put, List.setIfInBounds_toArray, List.set_cons_succ, List.set_cons_zero])
    refine wpE_take (i := 5) (oi := { dst := some 18, op := Go.Op.makeFunc (Go.Fn.method "Read") #[Go.Operand.tmp 13] #[], type := 47, pos := "virtq.go:158", after := #[{ on := 0, ground := Go.Ground.data }], guard := none }) (v := ?_) rfl (by kernel_rfl) (fun _ _ _ h => h) (Or.inl ⟨by rfl, fun W hW => ?_⟩) hS ?_
    rotate_left
    · have hw := hW; go_simp; (try go_bits); (try rw [if_pos (by omega)]); (try with_reducible rfl)
    (try simp only [Act.put, List.setIfInBounds_toArray, List.set_cons_succ, List.set_cons_zero])
    refine wpE_take (i := 6) (oi := { dst := some 19, op := Go.Op.nilCheck (Go.Operand.tmp 18), type := 47, pos := "virtq.go:158", after := #[{ on := 5, ground := Go.Ground.data }], guard := none }) (v := ?_) rfl (by kernel_rfl) (fun _ _ _ h => h) (Or.inl ⟨by rfl, fun W hW => ?_⟩) hS ?_
    rotate_left
    · have hw := hW; go_simp; (try go_bits); (try rw [if_pos (by omega)]); (try with_reducible rfl)
    (try simp only [Act.put, List.setIfInBounds_toArray, List.set_cons_succ, List.set_cons_zero])
    refine wpE_take (i := 7) (oi := { dst := some 20, op := Go.Op.move (Go.Operand.tmp 13), type := 84, pos := "virtq.go:158", after := #[{ on := 0, ground := Go.Ground.data }, { on := 5, ground := Go.Ground.data }, { on := 6, ground := Go.Ground.data }], guard := none }) (v := ?_) rfl (by kernel_rfl) (fun _ _ _ h => h) (Or.inl ⟨by rfl, fun W hW => ?_⟩) hS ?_
    rotate_left
    · have hw := hW; go_simp; (try go_bits); (try rw [if_pos (by omega)]); (try with_reducible rfl)
    (try simp only [Act.put, List.setIfInBounds_toArray, List.set_cons_succ, List.set_cons_zero])
    refine wpE_only (i := 8) (oi := { dst := some 21, op := Go.Op.call { callee := Go.Callee.invoke (Go.Operand.tmp 20) "Read", args := #[Go.Operand.tmp 17, Go.Operand.const (Go.Value.int Go.IntKind.i64 2)], argTypes := #[29, 3] }, type := 46, pos := "virtq.go:158", after := #[{ on := 7, ground := Go.Ground.data }, { on := 4, ground := Go.Ground.data }], guard := none }) rfl (by kernel_rfl) (by rfl) (fun K hK => ?_)
    go_simp; rw [m_Read]; simp only [Result.andThen]; rw [c_Read, Oper.upon_enter]; refine HR.out.mono ?_; rintro e wA ⟨rfl, nq, rfl⟩
    rw [HV.out]
    have hS : (w.drew.drewN nq).cell? ⟨p, 4, none⟩ = some (.int .u64 (q.av : Int)) := c4
    refine hK _ _ hS ?_; clear hK K
    (try simp only [Act.put, List.setIfInBounds_toArray, List.set_cons_succ, List.set_cons_zero])
    refine wpE_take (i := 9) (oi := { dst := some 12, op := Go.Op.move (Go.Operand.tmp 21), type := 46, pos := "virtq.go:158", after := #[{ on := 8, ground := Go.Ground.data }], guard := none }) (v := ?_) rfl (by kernel_rfl) (fun _ _ _ h => h) (Or.inl ⟨by rfl, fun W hW => ?_⟩) hS ?_
    rotate_left
    · have hw := hW; go_simp; (try go_bits); (try rw [if_pos (by omega)]); (try with_reducible rfl)
    (try simp only [Act.put, List.setIfInBounds_toArray, List.set_cons_succ, List.set_cons_zero])
    refine wpE_take (i := 10) (oi := { dst := some 22, op := Go.Op.extract (Go.Operand.tmp 12) 0, type := 29, pos := "virtq.go:158", after := #[{ on := 9, ground := Go.Ground.data }], guard := none }) (v := ?_) rfl (by kernel_rfl) (fun _ _ _ h => h) (Or.inl ⟨by rfl, fun W hW => ?_⟩) hS ?_
    rotate_left
    · have hw := hW; go_simp; (try go_bits); (try rw [if_pos (by omega)]); (try with_reducible rfl)
    (try simp only [Act.put, List.setIfInBounds_toArray, List.set_cons_succ, List.set_cons_zero])
    refine wpE_take (i := 11) (oi := { dst := some 23, op := Go.Op.extract (Go.Operand.tmp 12) 1, type := 4, pos := "virtq.go:158", after := #[{ on := 9, ground := Go.Ground.data }, { on := 12, ground := Go.Ground.gcOnly Go.Departure.lateStores }], guard := none }) (v := ?_) rfl (by kernel_rfl) (fun _ _ _ h => h) (Or.inl ⟨by rfl, fun W hW => ?_⟩) hS ?_
    rotate_left
    · have hw := hW; go_simp; (try go_bits); (try rw [if_pos (by omega)]); (try with_reducible rfl)
    (try simp only [Act.put, List.setIfInBounds_toArray, List.set_cons_succ, List.set_cons_zero])
    refine wpE_only (i := 12) (oi := { dst := some 5, op := Go.Op.assign (Go.Operand.tmp 22), type := 29, pos := "virtq.go:158", after := #[{ on := 10, ground := Go.Ground.data }, { on := 8, ground := Go.Ground.chain }, { on := 0, ground := Go.Ground.phase }, { on := 1, ground := Go.Ground.phase }, { on := 2, ground := Go.Ground.phase }, { on := 3, ground := Go.Ground.phase }, { on := 4, ground := Go.Ground.phase }, { on := 5, ground := Go.Ground.phase }, { on := 6, ground := Go.Ground.phase }, { on := 7, ground := Go.Ground.phase }, { on := 8, ground := Go.Ground.phase }, { on := 9, ground := Go.Ground.phase }, { on := 10, ground := Go.Ground.phase }, { on := 11, ground := Go.Ground.textOnly Go.Departure.lateStores }], guard := none }) rfl (by kernel_rfl) (by rfl) (fun K hK => ?_)
    go_simp; (try go_bits); refine hK _ _ hS ?_; clear hK K
    (try simp only [Act.put, List.setIfInBounds_toArray, List.set_cons_succ, List.set_cons_zero])
    refine wpE_last (oi := { dst := some 6, op := Go.Op.assign (Go.Operand.tmp 23), type := 4, pos := "virtq.go:158", after := #[{ on := 11, ground := Go.Ground.data }, { on := 12, ground := Go.Ground.chain }, { on := 0, ground := Go.Ground.phase }, { on := 1, ground := Go.Ground.phase }, { on := 2, ground := Go.Ground.phase }, { on := 3, ground := Go.Ground.phase }, { on := 4, ground := Go.Ground.phase }, { on := 5, ground := Go.Ground.phase }, { on := 6, ground := Go.Ground.phase }, { on := 7, ground := Go.Ground.phase }, { on := 8, ground := Go.Ground.phase }, { on := 9, ground := Go.Ground.phase }, { on := 10, ground := Go.Ground.phase }, { on := 11, ground := Go.Ground.phase }, { on := 12, ground := Go.Ground.phase }], guard := none }) rfl (by kernel_rfl) (by kernel_rfl) (by rfl) (fun K hK => ?_)
    go_simp; (try go_bits); refine hK _ _ ?_; clear hK K
    clear hS
    go_wp2
    go_ret
    rw [HQ.out, HV.out]
    exact ⟨rfl, _, rfl⟩
/-- the head of the next chain -/
def aheadQ (base n : Nat) (m : Nat → Int) (q : Qu) : Int := ((rdR base n m ((q.av + 2 : Nat) : Int) 2).1 - (q.tk : Int)) % 65536
def headA (q : Qu) : Nat := q.av + 4 + 2 * (q.tk % q.sz)
def nextV (base n : Nat) (m : Nat → Int) (q : Qu) : Int × Bool × Int :=
  if (rdR base n m ((q.av + 2 : Nat) : Int) 2).2 = false then (0, false, 32) else
  if aheadQ base n m q = 0 then (0, false, 0) else
  if (q.sz : Int) < aheadQ base n m q then (0, false, 30) else
  if (rdR base n m (headA q : Int) 2).2 = false then (0, false, 32) else ((rdR base n m (headA q : Int) 2).1, true, 0)
def nextQ (base n : Nat) (m : Nat → Int) (q : Qu) : Qu := if (nextV base n m q).2.1 = true then { q with tk := (q.tk + 1) % 65536 } else q
structure QuOk (q : Qu) : Prop where
  sz : q.rd = true → 1 ≤ q.sz ∧ q.sz ≤ 64
  ds : q.ds < 1152921504606846976
  av : q.av < 1152921504606846976
  us : q.us < 1152921504606846976
  tk : q.tk < 65536
  gv : q.gv < 65536
theorem u16w (x : Int) : IntKind.u16.wrap x = x % 65536 := by rfl
set_option maxHeartbeats 4000000 in
theorem q_next (h : QAt own c w p q) (hM : MemAt ramK own cm w mp base n m) (hok : QuOk q) (hrd : q.rd = true) :
    Calls Try.prog 38 #[.pointer (some ⟨p, 0, none⟩), memV mp] w fun e w' => e = .returned (.tuple #[.int .u64 (nextV base n m q).1, .bool (nextV base n m q).2.1, .int .i64 (nextV base n m q).2.2]) ∧ Step (· = c) own w own w' ∧ QAt own c w' p (nextQ base n m q) := by
  obtain ⟨_, _, c2, _, c4, _, c6, _⟩ := h.cells
  have hsz := hok.sz hrd
  obtain ⟨A1, hA1⟩ : ∃ a, q.av + 2 = a := ⟨_, rfl⟩
  have hav := hok.av
  have htk := hok.tk
  have hw1 : IntKind.u64.wrap ((q.av : Int) + 2) = (A1 : Int) := by rw [IntWalk.u64_in _ (by omega)]; omega
  obtain ⟨V, hV⟩ : ∃ V, (rdR base n m (A1 : Int) 2) = V := ⟨_, rfl⟩
  have hbd := rd_bd hM.bd base n (A1 : Int) 2 (.inl rfl)
  rw [hV, show (256 : Int) ^ (2 : Int).toNat = 65536 by decide] at hbd
  have hr := ram_Read (show MemAt ramK own cm w.drew mp base n m from hM.step (Step.refl (fun _ => False) own w).drew (fun h => h)) (A1 : Int) 2 (by omega) (by omega) (by decide) (by decide)
  rw [hV] at hr
  have HR := Lib.hid hr
  obtain ⟨Ah, hAh⟩ : ∃ a : Nat, aheadQ base n m q = (a : Int) ∧ a < 65536 := ⟨(aheadQ base n m q).toNat, by unfold aheadQ; omega, by unfold aheadQ; omega⟩
  have hnv : nextV base n m q = if V.2 = false then (0, false, 32) else if Ah = 0 then (0, false, 0) else if q.sz < Ah then (0, false, 30) else
      if (rdR base n m (headA q : Int) 2).2 = false then (0, false, 32) else ((rdR base n m (headA q : Int) 2).1, true, 0) := by
    unfold nextV
    rw [hA1, hV, hAh.1]
    simp only [Int.natCast_eq_zero, Int.ofNat_lt]
  have hc1 : IntKind.u16.wrap V.1 = V.1 := by rw [u16w]; omega
  have hc2 : IntKind.u16.wrap (V.1 - (q.tk : Int)) = (Ah : Int) := by
    have := hAh.1
    unfold aheadQ at this
    rw [hA1, hV] at this
    rw [u16w]; exact this
  have hc3 : IntKind.u64.wrap (Ah : Int) = (Ah : Int) := IntWalk.u64_in _ (by omega)
  have HN := Lib.hid (And.intro hnv (And.intro hV (And.intro h (And.intro hM (And.intro hok (And.intro hsz hAh.2))))))
  clear hnv hV h hM hbd hr hsz hAh hA1 hrd hok
  unfold memV
  have hnl := n_Read mp
  go_enter Try.func38, Try.ntmps38
  go_wp2_with fail
  refine wpE_region (S := fun (W' : World) => W'.cell? ⟨p, 4, none⟩ = some (.int .u64 (q.av : Int))) (s := 14) (by kernel_rfl) ?_
  have hS : (fun (W' : World) => W'.cell? ⟨p, 4, none⟩ = some (.int .u64 (q.av : Int))) _ := c4
  refine wpE_take (i := 0) (oi := { dst := some 12, op := Go.Op.move (Go.Operand.tmp 1), type := 84, pos := "virtq.go:78", after := #[], guard := none }) (v := ?_) rfl (by kernel_rfl) (fun _ _ _ h => h) (Or.inl ⟨by rfl, fun W hW => ?_⟩) hS ?_
  rotate_left
  · have hw := hW; go_simp; (try go_bits); (try rw [if_pos (by omega)]); (try with_reducible rfl)
  (try simp only [Act.put, List.setIfInBounds_toArray, List.set_cons_succ, List.set_cons_zero])
  refine wpE_take (i := 1) (oi := { dst := some 13, op := Go.Op.move (Go.Operand.tmp 0), type := 30, pos := "virtq.go:78", after := #[], guard := none }) (v := ?_) rfl (by kernel_rfl) (fun _ _ _ h => h) (Or.inl ⟨by rfl, fun W hW => ?_⟩) hS ?_
  rotate_left
  · have hw := hW; go_simp; (try go_bits); (try rw [if_pos (by omega)]); (try with_reducible rfl)
  (try simp only [Act.put, List.setIfInBounds_toArray, List.set_cons_succ, List.set_cons_zero])
  refine wpE_take (i := 2) (oi := { dst := some 14, op := Go.Op.nilCheck (Go.Operand.tmp 13), type := 0, pos := "virtq.go:78", after := #[{ on := 1, ground := Go.Ground.data }], guard := none }) (v := ?_) rfl (by kernel_rfl) (fun _ _ _ h => h) (Or.inl ⟨by rfl, fun W hW => ?_⟩) hS ?_
  rotate_left
  · have hw := hW; go_simp; (try go_bits); (try rw [if_pos (by omega)]); (try with_reducible rfl)
  (try simp only [Act.put, List.setIfInBounds_toArray, List.set_cons_succ, List.set_cons_zero])
  refine wpE_take (i := 3) (oi := { dst := some 15, op := Go.Op.fieldAddr 82 (Go.Operand.tmp 14) 4, type := 0, pos := "virtq.go:78", after := #[{ on := 2, ground := Go.Ground.data }], guard := none }) (v := ?_) rfl (by kernel_rfl) (fun _ _ _ h => h) (Or.inl ⟨by rfl, fun W hW => ?_⟩) hS ?_
  rotate_left
  · have hw := hW; go_simp; (try go_bits); (try rw [if_pos (by omega)]); (try with_reducible rfl)
  (try simp only [Act.put, List.setIfInBounds_toArray, List.set_cons_succ, List.set_cons_zero])
  refine wpE_take (i := 4) (oi := { dst := some 16, op := Go.Op.load 29 (Go.Operand.tmp 15), type := 29, pos := "virtq.go:78", after := #[{ on := 3, ground := Go.Ground.data }], guard := none }) (v := ?_) rfl (by kernel_rfl) (fun _ _ _ h => h) (Or.inl ⟨by rfl, fun W hW => ?_⟩) hS ?_
  rotate_left
  · have hw := hW; go_simp; (try go_bits); (try rw [if_pos (by omega)]); (try with_reducible rfl)
  (try simp only [Act.put, List.setIfInBounds_toArray, List.set_cons_succ, List.set_cons_zero])
  refine wpE_take (i := 5) (oi := { dst := some 17, op := Go.Op.binOp Go.BinOp.add 29 (Go.Operand.tmp 16) (Go.Operand.const (Go.Value.int Go.IntKind.u64 2)) 29, type := 29, pos := "virtq.go:78", after := #[{ on := 4, ground := Go.Ground.data }], guard := none }) (v := ?_) rfl (by kernel_rfl) (fun _ _ _ h => h) (Or.inl ⟨by rfl, fun W hW => ?_⟩) hS ?_
  rotate_left
  · have hw := hW; go_simp; (try go_bits); (try rw [if_pos (by omega)]); (try with_reducible rfl)
  (try simp only [Act.put, List.setIfInBounds_toArray, List.set_cons_succ, List.set_cons_zero])
  refine wpE_take (i := 6) (oi := { dst := some 18, op := Go.Op.makeFunc (Go.Fn.method "Read") #[Go.Operand.tmp 12] #[], type := 47, pos := "virtq.go:78", after := #[{ on := 0, ground := Go.Ground.data }], guard := none }) (v := ?_) rfl (by kernel_rfl) (fun _ _ _ h => h) (Or.inl ⟨by rfl, fun W hW => ?_⟩) hS ?_
  rotate_left
  · have hw := hW; go_simp; (try go_bits); (try rw [if_pos (by omega)]); (try with_reducible rfl)
  (try simp only [Act.put, List.setIfInBounds_toArray, List.set_cons_succ, List.set_cons_zero])
  refine wpE_take (i := 7) (oi := { dst := some 19, op := Go.Op.nilCheck (Go.Operand.tmp 18), type := 47, pos := "virtq.go:78", after := #[{ on := 6, ground := Go.Ground.data }], guard := none }) (v := ?_) rfl (by kernel_rfl) (fun _ _ _ h => h) (Or.inl ⟨by rfl, fun W hW => ?_⟩) hS ?_
  rotate_left
  · have hw := hW; go_simp; (try go_bits); (try rw [if_pos (by omega)]); (try with_reducible rfl)
  (try simp only [Act.put, List.setIfInBounds_toArray, List.set_cons_succ, List.set_cons_zero])
  refine wpE_take (i := 8) (oi := { dst := some 20, op := Go.Op.move (Go.Operand.tmp 12), type := 84, pos := "virtq.go:78", after := #[{ on := 0, ground := Go.Ground.data }, { on := 6, ground := Go.Ground.data }, { on := 7, ground := Go.Ground.data }], guard := none }) (v := ?_) rfl (by kernel_rfl) (fun _ _ _ h => h) (Or.inl ⟨by rfl, fun W hW => ?_⟩) hS ?_
  rotate_left
  · have hw := hW; go_simp; (try go_bits); (try rw [if_pos (by omega)]); (try with_reducible rfl)
  (try simp only [Act.put, List.setIfInBounds_toArray, List.set_cons_succ, List.set_cons_zero])
  refine wpE_only (i := 9) (oi := { dst := some 21, op := Go.Op.call { callee := Go.Callee.invoke (Go.Operand.tmp 20) "Read", args := #[Go.Operand.tmp 17, Go.Operand.const (Go.Value.int Go.IntKind.i64 2)], argTypes := #[29, 3] }, type := 46, pos := "virtq.go:78", after := #[{ on := 8, ground := Go.Ground.data }, { on := 5, ground := Go.Ground.data }], guard := none }) rfl (by kernel_rfl) (by rfl) (fun K hK => ?_)
  go_simp; rw [m_Read]; simp only [Result.andThen]; rw [c_Read, Oper.upon_enter]; refine HR.out.mono ?_; rintro e wA ⟨rfl, nq, rfl⟩
  have hS : (w.drew.drewN nq).cell? ⟨p, 4, none⟩ = some (.int .u64 (q.av : Int)) := c4
  refine hK _ _ hS ?_; clear hK K
  (try simp only [Act.put, List.setIfInBounds_toArray, List.set_cons_succ, List.set_cons_zero])
  refine wpE_take (i := 10) (oi := { dst := some 11, op := Go.Op.move (Go.Operand.tmp 21), type := 46, pos := "virtq.go:78", after := #[{ on := 9, ground := Go.Ground.data }], guard := none }) (v := ?_) rfl (by kernel_rfl) (fun _ _ _ h => h) (Or.inl ⟨by rfl, fun W hW => ?_⟩) hS ?_
  rotate_left
  · have hw := hW; go_simp; (try go_bits); (try rw [if_pos (by omega)]); (try with_reducible rfl)
  (try simp only [Act.put, List.setIfInBounds_toArray, List.set_cons_succ, List.set_cons_zero])
  refine wpE_take (i := 11) (oi := { dst := some 22, op := Go.Op.extract (Go.Operand.tmp 11) 0, type := 29, pos := "virtq.go:78", after := #[{ on := 10, ground := Go.Ground.data }], guard := none }) (v := ?_) rfl (by kernel_rfl) (fun _ _ _ h => h) (Or.inl ⟨by rfl, fun W hW => ?_⟩) hS ?_
  rotate_left
  · have hw := hW; go_simp; (try go_bits); (try rw [if_pos (by omega)]); (try with_reducible rfl)
  (try simp only [Act.put, List.setIfInBounds_toArray, List.set_cons_succ, List.set_cons_zero])
  refine wpE_take (i := 12) (oi := { dst := some 23, op := Go.Op.extract (Go.Operand.tmp 11) 1, type := 4, pos := "virtq.go:78", after := #[{ on := 10, ground := Go.Ground.data }, { on := 13, ground := Go.Ground.gcOnly Go.Departure.lateStores }], guard := none }) (v := ?_) rfl (by kernel_rfl) (fun _ _ _ h => h) (Or.inl ⟨by rfl, fun W hW => ?_⟩) hS ?_
  rotate_left
  · have hw := hW; go_simp; (try go_bits); (try rw [if_pos (by omega)]); (try with_reducible rfl)
  (try simp only [Act.put, List.setIfInBounds_toArray, List.set_cons_succ, List.set_cons_zero])
  refine wpE_only (i := 13) (oi := { dst := some 7, op := Go.Op.assign (Go.Operand.tmp 22), type := 29, pos := "virtq.go:78", after := #[{ on := 11, ground := Go.Ground.data }, { on := 9, ground := Go.Ground.chain }, { on := 0, ground := Go.Ground.phase }, { on := 1, ground := Go.Ground.phase }, { on := 2, ground := Go.Ground.phase }, { on := 3, ground := Go.Ground.phase }, { on := 4, ground := Go.Ground.phase }, { on := 5, ground := Go.Ground.phase }, { on := 6, ground := Go.Ground.phase }, { on := 7, ground := Go.Ground.phase }, { on := 8, ground := Go.Ground.phase }, { on := 9, ground := Go.Ground.phase }, { on := 10, ground := Go.Ground.phase }, { on := 11, ground := Go.Ground.phase }, { on := 12, ground := Go.Ground.textOnly Go.Departure.lateStores }], guard := none }) rfl (by kernel_rfl) (by rfl) (fun K hK => ?_)
  go_simp; (try go_bits); refine hK _ _ hS ?_; clear hK K
  (try simp only [Act.put, List.setIfInBounds_toArray, List.set_cons_succ, List.set_cons_zero])
  refine wpE_last (oi := { dst := some 8, op := Go.Op.assign (Go.Operand.tmp 23), type := 4, pos := "virtq.go:78", after := #[{ on := 12, ground := Go.Ground.data }, { on := 13, ground := Go.Ground.chain }, { on := 0, ground := Go.Ground.phase }, { on := 1, ground := Go.Ground.phase }, { on := 2, ground := Go.Ground.phase }, { on := 3, ground := Go.Ground.phase }, { on := 4, ground := Go.Ground.phase }, { on := 5, ground := Go.Ground.phase }, { on := 6, ground := Go.Ground.phase }, { on := 7, ground := Go.Ground.phase }, { on := 8, ground := Go.Ground.phase }, { on := 9, ground := Go.Ground.phase }, { on := 10, ground := Go.Ground.phase }, { on := 11, ground := Go.Ground.phase }, { on := 12, ground := Go.Ground.phase }, { on := 13, ground := Go.Ground.phase }], guard := none }) rfl (by kernel_rfl) (by kernel_rfl) (by rfl) (fun K hK => ?_)
  go_simp; (try go_bits); refine hK _ _ ?_; clear hK K
  clear hS
  have c6' : (w.drewN (1 + nq)).cell? ⟨p, 6, none⟩ = some (.int .u16 (q.tk : Int)) := c6
  have c2' : (w.drewN (1 + nq)).cell? ⟨p, 2, none⟩ = some (.int .u64 (q.sz : Int)) := c2
  have c4' : (w.drewN (1 + nq)).cell? ⟨p, 4, none⟩ = some (.int .u64 (q.av : Int)) := c4
  have hst : Step (fun _ => False) own w own (w.drewN (1 + nq)) := (Step.refl (fun _ => False) own w).drewN (1 + nq)
  have hMx := HN.out.2.2.2.1.step hst (fun h => h)
  have hQx := HN.out.2.2.1.step hst (fun h => h)
  have HS := Lib.hid hst
  have HMx := Lib.hid (And.intro hMx hQx)
  clear c2 c4 c6 hst HR hMx hQx
  generalize w.drewN (1 + nq) = wx at *
  obtain ⟨V1, V2⟩ := V
  cases V2 with
  | false =>
    have HE := Lib.hid (And.intro (show nextV base n m q = (0, false, 32) by rw [HN.out.1]; rfl) (And.intro (HS.out.mono (C' := (· = c)) (fun _ h => h.elim)) HMx.out.2))
    go_wp2
    go_ret3
    rw [show nextQ base n m q = q by unfold nextQ; rw [HE.out.1]; rfl, HE.out.1]
    exact ⟨rfl, HE.out.2⟩
  | true =>
    by_cases h0 : Ah = 0
    · have HE := Lib.hid (And.intro (show nextV base n m q = (0, false, 0) by rw [HN.out.1, if_neg (show ¬ (true = false) by decide), if_pos h0]) (And.intro (HS.out.mono (C' := (· = c)) (fun _ h => h.elim)) HMx.out.2))
      have h0' : ((Ah : Int) == 0) = true := by simp [h0]
      clear h0
      go_wp2
      go_ret3
      rw [show nextQ base n m q = q by unfold nextQ; rw [HE.out.1]; rfl, HE.out.1]
      exact ⟨rfl, HE.out.2⟩
    · have h0' : ((Ah : Int) == 0) = false := by simp; omega
      by_cases h1 : q.sz < Ah
      · have HE := Lib.hid (And.intro (show nextV base n m q = (0, false, 30) by rw [HN.out.1, if_neg (show ¬ (true = false) by decide), if_neg h0, if_pos h1]) (And.intro (HS.out.mono (C' := (· = c)) (fun _ h => h.elim)) HMx.out.2))
        have h1' : decide (q.sz < Ah) = true := decide_eq_true h1
        clear h0 h1
        go_wp2
        go_ret3
        rw [show nextQ base n m q = q by unfold nextQ; rw [HE.out.1]; rfl, HE.out.1]
        exact ⟨rfl, HE.out.2⟩
      · have h1' : decide (q.sz < Ah) = false := decide_eq_false h1
        have hnv := HN.out.1
        rw [if_neg (show ¬ ((true = false)) by decide), if_neg h0, if_neg h1] at hnv
        obtain ⟨hsz1, hsz2⟩ := HN.out.2.2.2.2.2.1
        have hz : ¬ q.sz = 0 := by omega
        obtain ⟨R, hR⟩ : ∃ r, q.tk % q.sz = r := ⟨_, rfl⟩
        have hRl : R < q.sz := hR ▸ Nat.mod_lt _ (by omega)
        have ht : Int.tmod (q.tk : Int) (q.sz : Int) = (R : Int) := by rw [Int.tmod_eq_emod_of_nonneg (by omega)]; omega
        have hk1 : IntKind.u64.wrap (q.tk : Int) = (q.tk : Int) := IntWalk.u64_in _ (by omega)
        obtain ⟨A2, hA2⟩ : ∃ a, q.av + 4 = a := ⟨_, rfl⟩
        obtain ⟨A3, hA3⟩ : ∃ a, 2 * R = a := ⟨_, rfl⟩
        obtain ⟨A4, hA4⟩ : ∃ a, A2 + A3 = a := ⟨_, rfl⟩
        have hw2 : IntKind.u64.wrap ((q.av : Int) + 4) = (A2 : Int) := by rw [IntWalk.u64_in _ (by omega)]; omega
        have hw3 : IntKind.u64.wrap (2 * (R : Int)) = (A3 : Int) := by rw [IntWalk.u64_in _ (by omega)]; omega
        have hw4 : IntKind.u64.wrap ((A2 : Int) + (A3 : Int)) = (A4 : Int) := by rw [IntWalk.u64_in _ (by omega)]; omega
        obtain ⟨W2, hW2⟩ : ∃ V, (rdR base n m (A4 : Int) 2) = V := ⟨_, rfl⟩
        rw [show headA q = A4 by unfold headA; rw [hR]; omega, hW2] at hnv
        have hr := ram_Read (show MemAt ramK own cm wx.drew mp base n m from HMx.out.1.step (Step.refl (fun _ => False) own wx).drew (fun h => h)) (A4 : Int) 2 (by omega) (by omega) (by decide) (by decide)
        rw [hW2] at hr
        have HR := Lib.hid hr
        have hS0 := And.intro c2' (And.intro c4' c6')
        have HS0 := Lib.hid hS0
        have HV2 := Lib.hid hnv
        have HSt2 := Lib.hid (HS.out.drew)
        clear hnv hsz1 hsz2 hR hRl hA2 hA3 hA4 hW2 hr h0 h1 hS0
        go_wp2_with fail
        clear hc1 hc2 hc3 hw1 h0' h1'
        refine wpE_region (S := fun (W' : World) => W'.cell? ⟨p, 2, none⟩ = some (.int .u64 (q.sz : Int)) ∧ W'.cell? ⟨p, 4, none⟩ = some (.int .u64 (q.av : Int)) ∧ W'.cell? ⟨p, 6, none⟩ = some (.int .u16 (q.tk : Int))) (s := 26) (by kernel_rfl) ?_
        have hS : (fun (W' : World) => W'.cell? ⟨p, 2, none⟩ = some (.int .u64 (q.sz : Int)) ∧ W'.cell? ⟨p, 4, none⟩ = some (.int .u64 (q.av : Int)) ∧ W'.cell? ⟨p, 6, none⟩ = some (.int .u16 (q.tk : Int))) _ := HS0.out
        refine wpE_take (i := 0) (oi := { dst := some 46, op := Go.Op.move (Go.Operand.tmp 1), type := 84, pos := "virtq.go:88", after := #[], guard := none }) (v := ?_) rfl (by kernel_rfl) (fun _ _ _ h => h) (Or.inl ⟨by rfl, fun W hW => ?_⟩) hS ?_
        rotate_left
        · obtain ⟨hw', hw'', hw'''⟩ := hW; go_simp; (try go_bits); (try rw [if_pos (by omega)]); (try with_reducible rfl)
        (try simp only [Act.put, List.setIfInBounds_toArray, List.set_cons_succ, List.set_cons_zero])
        refine wpE_take (i := 1) (oi := { dst := some 47, op := Go.Op.move (Go.Operand.tmp 0), type := 30, pos := "virtq.go:88", after := #[], guard := none }) (v := ?_) rfl (by kernel_rfl) (fun _ _ _ h => h) (Or.inl ⟨by rfl, fun W hW => ?_⟩) hS ?_
        rotate_left
        · obtain ⟨hw', hw'', hw'''⟩ := hW; go_simp; (try go_bits); (try rw [if_pos (by omega)]); (try with_reducible rfl)
        (try simp only [Act.put, List.setIfInBounds_toArray, List.set_cons_succ, List.set_cons_zero])
        refine wpE_take (i := 2) (oi := { dst := some 48, op := Go.Op.nilCheck (Go.Operand.tmp 47), type := 0, pos := "virtq.go:88", after := #[{ on := 1, ground := Go.Ground.data }], guard := none }) (v := ?_) rfl (by kernel_rfl) (fun _ _ _ h => h) (Or.inl ⟨by rfl, fun W hW => ?_⟩) hS ?_
        rotate_left
        · obtain ⟨hw', hw'', hw'''⟩ := hW; go_simp; (try go_bits); (try rw [if_pos (by omega)]); (try with_reducible rfl)
        (try simp only [Act.put, List.setIfInBounds_toArray, List.set_cons_succ, List.set_cons_zero])
        refine wpE_take (i := 3) (oi := { dst := some 49, op := Go.Op.fieldAddr 82 (Go.Operand.tmp 48) 4, type := 0, pos := "virtq.go:88", after := #[{ on := 2, ground := Go.Ground.data }], guard := none }) (v := ?_) rfl (by kernel_rfl) (fun _ _ _ h => h) (Or.inl ⟨by rfl, fun W hW => ?_⟩) hS ?_
        rotate_left
        · obtain ⟨hw', hw'', hw'''⟩ := hW; go_simp; (try go_bits); (try rw [if_pos (by omega)]); (try with_reducible rfl)
        (try simp only [Act.put, List.setIfInBounds_toArray, List.set_cons_succ, List.set_cons_zero])
        refine wpE_take (i := 4) (oi := { dst := some 50, op := Go.Op.load 29 (Go.Operand.tmp 49), type := 29, pos := "virtq.go:88", after := #[{ on := 3, ground := Go.Ground.data }], guard := none }) (v := ?_) rfl (by kernel_rfl) (fun _ _ _ h => h) (Or.inl ⟨by rfl, fun W hW => ?_⟩) hS ?_
        rotate_left
        · obtain ⟨hw', hw'', hw'''⟩ := hW; go_simp; (try go_bits); (try rw [if_pos (by omega)]); (try with_reducible rfl)
        (try simp only [Act.put, List.setIfInBounds_toArray, List.set_cons_succ, List.set_cons_zero])
        refine wpE_take (i := 5) (oi := { dst := some 51, op := Go.Op.binOp Go.BinOp.add 29 (Go.Operand.tmp 50) (Go.Operand.const (Go.Value.int Go.IntKind.u64 4)) 29, type := 29, pos := "virtq.go:88", after := #[{ on := 4, ground := Go.Ground.data }], guard := none }) (v := ?_) rfl (by kernel_rfl) (fun _ _ _ h => h) (Or.inl ⟨by rfl, fun W hW => ?_⟩) hS ?_
        rotate_left
        · obtain ⟨hw', hw'', hw'''⟩ := hW; go_simp; (try go_bits); (try rw [if_pos (by omega)]); (try with_reducible rfl)
        (try simp only [Act.put, List.setIfInBounds_toArray, List.set_cons_succ, List.set_cons_zero])
        refine wpE_take (i := 6) (oi := { dst := some 52, op := Go.Op.move (Go.Operand.tmp 0), type := 30, pos := "virtq.go:88", after := #[], guard := none }) (v := ?_) rfl (by kernel_rfl) (fun _ _ _ h => h) (Or.inl ⟨by rfl, fun W hW => ?_⟩) hS ?_
        rotate_left
        · obtain ⟨hw', hw'', hw'''⟩ := hW; go_simp; (try go_bits); (try rw [if_pos (by omega)]); (try with_reducible rfl)
        (try simp only [Act.put, List.setIfInBounds_toArray, List.set_cons_succ, List.set_cons_zero])
        refine wpE_take (i := 7) (oi := { dst := some 53, op := Go.Op.nilCheck (Go.Operand.tmp 52), type := 0, pos := "virtq.go:88", after := #[{ on := 6, ground := Go.Ground.data }], guard := none }) (v := ?_) rfl (by kernel_rfl) (fun _ _ _ h => h) (Or.inl ⟨by rfl, fun W hW => ?_⟩) hS ?_
        rotate_left
        · obtain ⟨hw', hw'', hw'''⟩ := hW; go_simp; (try go_bits); (try rw [if_pos (by omega)]); (try with_reducible rfl)
        (try simp only [Act.put, List.setIfInBounds_toArray, List.set_cons_succ, List.set_cons_zero])
        refine wpE_take (i := 8) (oi := { dst := some 54, op := Go.Op.fieldAddr 82 (Go.Operand.tmp 53) 6, type := 0, pos := "virtq.go:88", after := #[{ on := 7, ground := Go.Ground.data }], guard := none }) (v := ?_) rfl (by kernel_rfl) (fun _ _ _ h => h) (Or.inl ⟨by rfl, fun W hW => ?_⟩) hS ?_
        rotate_left
        · obtain ⟨hw', hw'', hw'''⟩ := hW; go_simp; (try go_bits); (try rw [if_pos (by omega)]); (try with_reducible rfl)
        (try simp only [Act.put, List.setIfInBounds_toArray, List.set_cons_succ, List.set_cons_zero])
        refine wpE_take (i := 9) (oi := { dst := some 55, op := Go.Op.load 80 (Go.Operand.tmp 54), type := 80, pos := "virtq.go:88", after := #[{ on := 8, ground := Go.Ground.data }], guard := none }) (v := ?_) rfl (by kernel_rfl) (fun _ _ _ h => h) (Or.inl ⟨by rfl, fun W hW => ?_⟩) hS ?_
        rotate_left
        · obtain ⟨hw', hw'', hw'''⟩ := hW; go_simp; (try go_bits); (try rw [if_pos (by omega)]); (try with_reducible rfl)
        (try simp only [Act.put, List.setIfInBounds_toArray, List.set_cons_succ, List.set_cons_zero])
        refine wpE_take (i := 10) (oi := { dst := some 56, op := Go.Op.convert 80 29 (Go.Operand.tmp 55), type := 29, pos := "virtq.go:88", after := #[{ on := 9, ground := Go.Ground.data }], guard := none }) (v := ?_) rfl (by kernel_rfl) (fun _ _ _ h => h) (Or.inl ⟨by rfl, fun W hW => ?_⟩) hS ?_
        rotate_left
        · obtain ⟨hw', hw'', hw'''⟩ := hW; go_simp; (try go_bits); (try rw [if_pos (by omega)]); (try with_reducible rfl)
        (try simp only [Act.put, List.setIfInBounds_toArray, List.set_cons_succ, List.set_cons_zero])
        refine wpE_take (i := 11) (oi := { dst := some 57, op := Go.Op.move (Go.Operand.tmp 0), type := 30, pos := "virtq.go:88", after := #[], guard := none }) (v := ?_) rfl (by kernel_rfl) (fun _ _ _ h => h) (Or.inl ⟨by rfl, fun W hW => ?_⟩) hS ?_
        rotate_left
        · obtain ⟨hw', hw'', hw'''⟩ := hW; go_simp; (try go_bits); (try rw [if_pos (by omega)]); (try with_reducible rfl)
        (try simp only [Act.put, List.setIfInBounds_toArray, List.set_cons_succ, List.set_cons_zero])
        refine wpE_take (i := 12) (oi := { dst := some 58, op := Go.Op.nilCheck (Go.Operand.tmp 57), type := 0, pos := "virtq.go:88", after := #[{ on := 11, ground := Go.Ground.data }], guard := none }) (v := ?_) rfl (by kernel_rfl) (fun _ _ _ h => h) (Or.inl ⟨by rfl, fun W hW => ?_⟩) hS ?_
        rotate_left
        · obtain ⟨hw', hw'', hw'''⟩ := hW; go_simp; (try go_bits); (try rw [if_pos (by omega)]); (try with_reducible rfl)
        (try simp only [Act.put, List.setIfInBounds_toArray, List.set_cons_succ, List.set_cons_zero])
        refine wpE_take (i := 13) (oi := { dst := some 59, op := Go.Op.fieldAddr 82 (Go.Operand.tmp 58) 2, type := 0, pos := "virtq.go:88", after := #[{ on := 12, ground := Go.Ground.data }], guard := none }) (v := ?_) rfl (by kernel_rfl) (fun _ _ _ h => h) (Or.inl ⟨by rfl, fun W hW => ?_⟩) hS ?_
        rotate_left
        · obtain ⟨hw', hw'', hw'''⟩ := hW; go_simp; (try go_bits); (try rw [if_pos (by omega)]); (try with_reducible rfl)
        (try simp only [Act.put, List.setIfInBounds_toArray, List.set_cons_succ, List.set_cons_zero])
        refine wpE_take (i := 14) (oi := { dst := some 60, op := Go.Op.load 29 (Go.Operand.tmp 59), type := 29, pos := "virtq.go:88", after := #[{ on := 13, ground := Go.Ground.data }], guard := none }) (v := ?_) rfl (by kernel_rfl) (fun _ _ _ h => h) (Or.inl ⟨by rfl, fun W hW => ?_⟩) hS ?_
        rotate_left
        · obtain ⟨hw', hw'', hw'''⟩ := hW; go_simp; (try go_bits); (try rw [if_pos (by omega)]); (try with_reducible rfl)
        (try simp only [Act.put, List.setIfInBounds_toArray, List.set_cons_succ, List.set_cons_zero])
        refine wpE_take (i := 15) (oi := { dst := some 61, op := Go.Op.binOp Go.BinOp.rem 29 (Go.Operand.tmp 56) (Go.Operand.tmp 60) 29, type := 29, pos := "virtq.go:88", after := #[{ on := 10, ground := Go.Ground.data }, { on := 14, ground := Go.Ground.data }], guard := none }) (v := ?_) rfl (by kernel_rfl) (fun _ _ _ h => h) (Or.inl ⟨by rfl, fun W hW => ?_⟩) hS ?_
        rotate_left
        · obtain ⟨hw', hw'', hw'''⟩ := hW; go_simp; (try go_bits); (try rw [if_pos (by omega)]); (try with_reducible rfl)
        (try simp only [Act.put, List.setIfInBounds_toArray, List.set_cons_succ, List.set_cons_zero])
        refine wpE_take (i := 16) (oi := { dst := some 62, op := Go.Op.binOp Go.BinOp.mul 29 (Go.Operand.const (Go.Value.int Go.IntKind.u64 2)) (Go.Operand.tmp 61) 29, type := 29, pos := "virtq.go:88", after := #[{ on := 15, ground := Go.Ground.data }], guard := none }) (v := ?_) rfl (by kernel_rfl) (fun _ _ _ h => h) (Or.inl ⟨by rfl, fun W hW => ?_⟩) hS ?_
        rotate_left
        · obtain ⟨hw', hw'', hw'''⟩ := hW; go_simp; (try go_bits); (try rw [if_pos (by omega)]); (try with_reducible rfl)
        (try simp only [Act.put, List.setIfInBounds_toArray, List.set_cons_succ, List.set_cons_zero])
        refine wpE_take (i := 17) (oi := { dst := some 63, op := Go.Op.binOp Go.BinOp.add 29 (Go.Operand.tmp 51) (Go.Operand.tmp 62) 29, type := 29, pos := "virtq.go:88", after := #[{ on := 5, ground := Go.Ground.data }, { on := 16, ground := Go.Ground.data }], guard := none }) (v := ?_) rfl (by kernel_rfl) (fun _ _ _ h => h) (Or.inl ⟨by rfl, fun W hW => ?_⟩) hS ?_
        rotate_left
        · obtain ⟨hw', hw'', hw'''⟩ := hW; go_simp; (try go_bits); (try rw [if_pos (by omega)]); (try with_reducible rfl)
        (try simp only [Act.put, List.setIfInBounds_toArray, List.set_cons_succ, List.set_cons_zero])
        refine wpE_take (i := 18) (oi := { dst := some 64, op := Go.Op.makeFunc (Go.Fn.method "Read") #[Go.Operand.tmp 46] #[], type := 47, pos := "virtq.go:88", after := #[{ on := 0, ground := Go.Ground.data }], guard := none }) (v := ?_) rfl (by kernel_rfl) (fun _ _ _ h => h) (Or.inl ⟨by rfl, fun W hW => ?_⟩) hS ?_
        rotate_left
        · obtain ⟨hw', hw'', hw'''⟩ := hW; go_simp; (try go_bits); (try rw [if_pos (by omega)]); (try with_reducible rfl)
        (try simp only [Act.put, List.setIfInBounds_toArray, List.set_cons_succ, List.set_cons_zero])
        refine wpE_take (i := 19) (oi := { dst := some 65, op := Go.Op.nilCheck (Go.Operand.tmp 64), type := 47, pos := "virtq.go:88", after := #[{ on := 18, ground := Go.Ground.data }], guard := none }) (v := ?_) rfl (by kernel_rfl) (fun _ _ _ h => h) (Or.inl ⟨by rfl, fun W hW => ?_⟩) hS ?_
        rotate_left
        · obtain ⟨hw', hw'', hw'''⟩ := hW; go_simp; (try go_bits); (try rw [if_pos (by omega)]); (try with_reducible rfl)
        (try simp only [Act.put, List.setIfInBounds_toArray, List.set_cons_succ, List.set_cons_zero])
        refine wpE_take (i := 20) (oi := { dst := some 66, op := Go.Op.move (Go.Operand.tmp 46), type := 84, pos := "virtq.go:88", after := #[{ on := 0, ground := Go.Ground.data }, { on := 18, ground := Go.Ground.data }, { on := 19, ground := Go.Ground.data }], guard := none }) (v := ?_) rfl (by kernel_rfl) (fun _ _ _ h => h) (Or.inl ⟨by rfl, fun W hW => ?_⟩) hS ?_
        rotate_left
        · obtain ⟨hw', hw'', hw'''⟩ := hW; go_simp; (try go_bits); (try rw [if_pos (by omega)]); (try with_reducible rfl)
        (try simp only [Act.put, List.setIfInBounds_toArray, List.set_cons_succ, List.set_cons_zero])
        refine wpE_only (i := 21) (oi := { dst := some 67, op := Go.Op.call { callee := Go.Callee.invoke (Go.Operand.tmp 66) "Read", args := #[Go.Operand.tmp 63, Go.Operand.const (Go.Value.int Go.IntKind.i64 2)], argTypes := #[29, 3] }, type := 46, pos := "virtq.go:88", after := #[{ on := 20, ground := Go.Ground.data }, { on := 17, ground := Go.Ground.data }], guard := none }) rfl (by kernel_rfl) (by rfl) (fun K hK => ?_)
        go_simp; rw [m_Read]; simp only [Result.andThen]; rw [c_Read, Oper.upon_enter]; refine HR.out.mono ?_; rintro e wA ⟨rfl, nq2, rfl⟩
        have hS : (wx.drew.drewN nq2).cell? ⟨p, 2, none⟩ = some (.int .u64 (q.sz : Int)) ∧ (wx.drew.drewN nq2).cell? ⟨p, 4, none⟩ = some (.int .u64 (q.av : Int)) ∧ (wx.drew.drewN nq2).cell? ⟨p, 6, none⟩ = some (.int .u16 (q.tk : Int)) := ⟨c2', c4', c6'⟩
        refine hK _ _ hS ?_; clear hK K
        (try simp only [Act.put, List.setIfInBounds_toArray, List.set_cons_succ, List.set_cons_zero])
        refine wpE_take (i := 22) (oi := { dst := some 45, op := Go.Op.move (Go.Operand.tmp 67), type := 46, pos := "virtq.go:88", after := #[{ on := 21, ground := Go.Ground.data }], guard := none }) (v := ?_) rfl (by kernel_rfl) (fun _ _ _ h => h) (Or.inl ⟨by rfl, fun W hW => ?_⟩) hS ?_
        rotate_left
        · obtain ⟨hw', hw'', hw'''⟩ := hW; go_simp; (try go_bits); (try rw [if_pos (by omega)]); (try with_reducible rfl)
        (try simp only [Act.put, List.setIfInBounds_toArray, List.set_cons_succ, List.set_cons_zero])
        refine wpE_take (i := 23) (oi := { dst := some 68, op := Go.Op.extract (Go.Operand.tmp 45) 0, type := 29, pos := "virtq.go:88", after := #[{ on := 22, ground := Go.Ground.data }], guard := none }) (v := ?_) rfl (by kernel_rfl) (fun _ _ _ h => h) (Or.inl ⟨by rfl, fun W hW => ?_⟩) hS ?_
        rotate_left
        · obtain ⟨hw', hw'', hw'''⟩ := hW; go_simp; (try go_bits); (try rw [if_pos (by omega)]); (try with_reducible rfl)
        (try simp only [Act.put, List.setIfInBounds_toArray, List.set_cons_succ, List.set_cons_zero])
        refine wpE_take (i := 24) (oi := { dst := some 69, op := Go.Op.extract (Go.Operand.tmp 45) 1, type := 4, pos := "virtq.go:88", after := #[{ on := 22, ground := Go.Ground.data }, { on := 25, ground := Go.Ground.gcOnly Go.Departure.lateStores }], guard := none }) (v := ?_) rfl (by kernel_rfl) (fun _ _ _ h => h) (Or.inl ⟨by rfl, fun W hW => ?_⟩) hS ?_
        rotate_left
        · obtain ⟨hw', hw'', hw'''⟩ := hW; go_simp; (try go_bits); (try rw [if_pos (by omega)]); (try with_reducible rfl)
        (try simp only [Act.put, List.setIfInBounds_toArray, List.set_cons_succ, List.set_cons_zero])
        refine wpE_only (i := 25) (oi := { dst := some 10, op := Go.Op.assign (Go.Operand.tmp 68), type := 29, pos := "virtq.go:88", after := #[{ on := 23, ground := Go.Ground.data }, { on := 21, ground := Go.Ground.chain }, { on := 0, ground := Go.Ground.phase }, { on := 1, ground := Go.Ground.phase }, { on := 2, ground := Go.Ground.phase }, { on := 3, ground := Go.Ground.phase }, { on := 4, ground := Go.Ground.phase }, { on := 5, ground := Go.Ground.phase }, { on := 6, ground := Go.Ground.phase }, { on := 7, ground := Go.Ground.phase }, { on := 8, ground := Go.Ground.phase }, { on := 9, ground := Go.Ground.phase }, { on := 10, ground := Go.Ground.phase }, { on := 11, ground := Go.Ground.phase }, { on := 12, ground := Go.Ground.phase }, { on := 13, ground := Go.Ground.phase }, { on := 14, ground := Go.Ground.phase }, { on := 15, ground := Go.Ground.phase }, { on := 16, ground := Go.Ground.phase }, { on := 17, ground := Go.Ground.phase }, { on := 18, ground := Go.Ground.phase }, { on := 19, ground := Go.Ground.phase }, { on := 20, ground := Go.Ground.phase }, { on := 21, ground := Go.Ground.phase }, { on := 22, ground := Go.Ground.phase }, { on := 23, ground := Go.Ground.phase }, { on := 24, ground := Go.Ground.textOnly Go.Departure.lateStores }], guard := none }) rfl (by kernel_rfl) (by rfl) (fun K hK => ?_)
        go_simp; (try go_bits); refine hK _ _ hS ?_; clear hK K
        (try simp only [Act.put, List.setIfInBounds_toArray, List.set_cons_succ, List.set_cons_zero])
        refine wpE_last (oi := { dst := some 8, op := Go.Op.assign (Go.Operand.tmp 69), type := 4, pos := "virtq.go:88", after := #[{ on := 24, ground := Go.Ground.data }, { on := 25, ground := Go.Ground.chain }, { on := 0, ground := Go.Ground.phase }, { on := 1, ground := Go.Ground.phase }, { on := 2, ground := Go.Ground.phase }, { on := 3, ground := Go.Ground.phase }, { on := 4, ground := Go.Ground.phase }, { on := 5, ground := Go.Ground.phase }, { on := 6, ground := Go.Ground.phase }, { on := 7, ground := Go.Ground.phase }, { on := 8, ground := Go.Ground.phase }, { on := 9, ground := Go.Ground.phase }, { on := 10, ground := Go.Ground.phase }, { on := 11, ground := Go.Ground.phase }, { on := 12, ground := Go.Ground.phase }, { on := 13, ground := Go.Ground.phase }, { on := 14, ground := Go.Ground.phase }, { on := 15, ground := Go.Ground.phase }, { on := 16, ground := Go.Ground.phase }, { on := 17, ground := Go.Ground.phase }, { on := 18, ground := Go.Ground.phase }, { on := 19, ground := Go.Ground.phase }, { on := 20, ground := Go.Ground.phase }, { on := 21, ground := Go.Ground.phase }, { on := 22, ground := Go.Ground.phase }, { on := 23, ground := Go.Ground.phase }, { on := 24, ground := Go.Ground.phase }, { on := 25, ground := Go.Ground.phase }], guard := none }) rfl (by kernel_rfl) (by kernel_rfl) (by rfl) (fun K hK => ?_)
        go_simp; (try go_bits); refine hK _ _ ?_; clear hK K
        clear hS
        have hs2 : Step (fun _ => False) own w own (wx.drewN (1 + nq2)) := HS.out.drewN (1 + nq2)
        have hq2 := HMx.out.2.step ((Step.refl (fun _ => False) own wx).drewN (1 + nq2)) (fun h => h)
        have c6'' := hq2.cells.2.2.2.2.2.2.1
        have z6 := hq2.frz.2.2.2.2.2.2.1
        have H2 := Lib.hid (And.intro hs2 hq2)
        clear hs2 hq2 c6' c2' c4' HS0 HSt2 HR hw2 hw3 hw4 hk1 ht hz
        generalize wx.drewN (1 + nq2) = wy at *
        obtain ⟨W21, W22⟩ := W2
        cases W22 with
        | false =>
          have HE := Lib.hid (And.intro (show nextV base n m q = (0, false, 32) by rw [HV2.out]; rfl) (And.intro (H2.out.1.mono (C' := (· = c)) (fun _ h => h.elim)) H2.out.2))
          go_wp2
          go_ret3
          rw [show nextQ base n m q = q by unfold nextQ; rw [HE.out.1]; rfl, HE.out.1]
          exact ⟨rfl, HE.out.2⟩
        | true =>
          have hput := H2.out.2.putTk ((q.tk + 1) % 65536)
          have hw5 : IntKind.u16.wrap ((q.tk : Int) + 1) = (((q.tk + 1) % 65536 : Nat) : Int) := by rw [u16w]; omega
          obtain ⟨tk', htk'⟩ : ∃ t, (q.tk + 1) % 65536 = t := ⟨_, rfl⟩
          rw [htk'] at hput hw5
          have HE := Lib.hid (And.intro (show nextV base n m q = (W21, true, 0) by rw [HV2.out]; rfl) (And.intro ((H2.out.1.mono (C' := (· = c)) (fun _ h => h.elim)).trans hput.2) hput.1))
          have HT := Lib.hid htk'
          clear hput htk'
          go_wp2
          go_ret3
          rw [show nextQ base n m q = { q with tk := tk' } by unfold nextQ; rw [HE.out.1, HT.out]; rfl, HE.out.1]
          exact ⟨rfl, HE.out.2⟩
end
end Go.Proofs.Ytjhibbhinbdciaa
