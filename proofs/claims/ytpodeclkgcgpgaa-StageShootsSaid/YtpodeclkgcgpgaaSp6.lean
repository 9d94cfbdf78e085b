import Derived.Test.YtpodeclkgcgpgaaSp5
/- A guest's space: Has, place, Write, Tables. -/
namespace Go.Proofs.Ytpodeclkgcgpgaa
set_option linter.unusedVariables false
open Go.RowKit
set_option maxRecDepth 100000

/-- a page that is there: its frame, its rights -/
structure PgOk (n : Nat) (m : Nat → Int) (t0 page fr : Nat) (pm : Int) : Prop where
  hp : page < 134217728
  dn : DnOk n m t0 page
  fnd : fndP m t0 page = ((page : Int), (fr : Int), pm, true)
  lt : fr < n
/-- the pages from A to B are there -/
def MapOk (n : Nat) (m : Nat → Int) (t0 A B : Nat) (fr : Nat → Nat) (pm : Nat → Int) : Prop := ∀ page, A ≤ page → page ≤ B → PgOk n m t0 page (fr page) (pm page)
/-- bytes laid one by one, each at its place -/
def wrG (m : Nat → Int) (pa : Nat → Nat) (v : Int) : Nat → Nat → Int
  | 0 => m
  | j + 1 => setB (wrG m pa v j) (pa j) (byteOf v j)
theorem wr1 {n : Nat} {m : Nat → Int} {a : Nat} {x : Int} (h : a + 1 ≤ n * 4096) : wrR 0 n m (a : Int) 1 x = setB m a (x % 256) := by
  have h1 : hasR 0 n (a : Int) 1 = true := hasR_iff.2 (by omega)
  have : wrR 0 n m (a : Int) 1 x = put m a 1 x := by simp [wrR, h1, okS]
  rw [this]
  funext j
  unfold put setB
  by_cases e : j = a
  · subst e; rw [if_pos (by omega), if_pos rfl, Nat.sub_self, byteOf_zero]
  · rw [if_neg (by omega), if_neg e]
theorem wrG_far {m : Nat → Int} {pa : Nat → Nat} {v : Int} {D : Nat → Prop} (hD : ∀ j, D (pa j / 4096)) : ∀ k x, ¬ D (x / 4096) → wrG m pa v k x = m x := by
  intro k
  induction k with
  | zero => intro x _; rfl
  | succ k ih =>
    intro x hx
    show setB (wrG m pa v k) (pa k) (byteOf v k) x = m x
    rw [setB_ne _ (by rintro rfl; exact hx (hD k)), ih x hx]
section
variable {own : Nat → Nat} {c rp sp pp n t0 : Nat} {res harts vmid : Int} {ts : List Int} {s : PSt} {m : Nat → Int} {w : World}
theorem sp_FindE {page fr : Nat} {pm : Int} (hM : MemAt ramK own c w rp 0 n m) (hS : SpAt own w sp rp pp vmid ((t0 : Int) :: ts)) (hP : PgOk n m t0 page fr pm) (a : Int) (ha : a = (page : Int)) :
    Calls Try.prog 53 #[.pointer (some ⟨sp, 0, none⟩), .int .u64 a] w fun e w' => e = .returned (.tuple #[.agg #[.int .u64 (page : Int), .int .i64 (fr : Int), .int .i64 pm], .bool true]) ∧ Step (fun _ => False) own w own w' := by
  subst ha
  have := sp_Find hM hS hP.dn hP.hp
  rw [hP.fnd] at this
  exact this
theorem st_whole (k : Int) (w : World) (hk : k = 1 ∨ k = 2 ∨ k = 4 ∨ k = 8) : Calls Try.prog 98 #[.int .i64 k] w fun e w' => e = .returned (.bool true) ∧ w = w' := by
  rcases hk with rfl | rfl | rfl | rfl
  all_goals
    go_enter Try.func98, Try.ntmps98
    go_wp2
    go_ret
    exact ⟨rfl, rfl⟩
set_option maxHeartbeats 1000000 in
theorem sp_Has_ok {fr : Nat → Nat} {pm : Nat → Int} (addr k : Nat) (hk : 1 ≤ k ∧ k ≤ 4096) (ha : addr + k ≤ 549755813888) (hM : MemAt ramK own c w rp 0 n m) (hS : SpAt own w sp rp pp vmid ((t0 : Int) :: ts)) (hP : MapOk n m t0 (addr / 4096) ((addr + k - 1) / 4096) fr pm) :
    Calls Try.prog 41 #[.pointer (some ⟨sp, 0, none⟩), .int .u64 (addr : Int), .int .i64 (k : Int)] w fun e w' => e = .returned (.bool true) ∧ Step (fun _ => False) own w own w' := by
  have hk0 : decide (k = 0) = false := by simp; omega
  have HG := Lib.hid (And.intro hM (And.intro hS hP))
  have hw1 : IntKind.u64.wrap ((addr : Int) + (k : Int)) = ((addr + k : Nat) : Int) := by rw [IntWalk.u64_in _ (by omega)]; omega
  obtain ⟨hk1, hk2⟩ := hk
  clear hM hS hP hw1
  go_enter Try.func41, Try.ntmps41
  go_wp2
  go_loopw [8] (fun i wr => ∃ (p : Nat), addr / 4096 ≤ p ∧ p ≤ (addr + k - 1) / 4096 + 1 ∧ i = .int .u64 (p : Int) ∧ Hid (Step (fun _ => False) own w own wr)) (fun i _ => (addr + k - 1) / 4096 + 1 - (intOf i).toNat)
  case atStart => exact ⟨addr / 4096, by omega, by omega, by go_num, Step.refl _ _ _⟩
  case round =>
    obtain ⟨p, hp0, hp1, rfl, HR⟩ := hrel
    by_cases hlt : p ≤ (addr + k - 1) / 4096
    · have HF := Lib.hid (sp_FindE (HG.out.1.step HR.out (fun h => h)) (HG.out.2.1.step HR.out (fun h => h) (fun h => h)) (HG.out.2.2 p hp0 hlt) (p : Int) rfl)
      have hc : ((p : Int) ≤ ((addr : Int) + (k : Int) - 1) / 4096) := by omega
      have hlp : p ≤ 134217728 := by omega
      generalize fr p = f1 at *
      generalize pm p = q1 at *
      go_wp2_with fail
      refine HF.out.mono ?_; rintro e w2 ⟨rfl, hS2⟩
      have H2 := Lib.hid ((HR.out.trans hS2).trans (step_alloc own w2 (.cells #[.int .u64 (p : Int), .int .i64 (f1 : Int), .int .i64 q1] 85)))
      clear hS2 HF HR
      go_wp2
      exact ⟨⟨p + 1, by omega, by omega, by go_num, H2.out⟩, by simp [intOf]; omega⟩
    · have hc : ¬ ((p : Int) ≤ ((addr : Int) + (k : Int) - 1) / 4096) := by omega
      go_wp2
      go_ret
      exact ⟨rfl, HR.out⟩
theorem sp_place {fr : Nat} {pm : Int} (addr : Nat) (ha : addr < 549755813888) (hM : MemAt ramK own c w rp 0 n m) (hS : SpAt own w sp rp pp vmid ((t0 : Int) :: ts)) (hP : PgOk n m t0 (addr / 4096) fr pm) (a : Int) (hae : a = (addr : Int)) :
    Calls Try.prog 99 #[.pointer (some ⟨sp, 0, none⟩), .int .u64 a] w fun e w' => e = .returned (.int .u64 ((fr * 4096 + addr % 4096 : Nat) : Int)) ∧ Step (fun _ => False) own w own w' := by
  subst hae
  have HF := Lib.hid (sp_FindE hM hS hP ((addr : Int) / 4096) (by omega))
  have hfr := hP.lt
  have hn := hM.sizes.2.2
  have HG := Lib.hid (And.intro hM hS)
  clear hM hS hP
  go_enter Try.func99, Try.ntmps99
  go_wp2_with fail
  refine HF.out.mono ?_; rintro e w2 ⟨rfl, hS2⟩
  have hstA : Step (fun _ => False) own w own (w2.alloc (.cells #[.int .u64 ((addr / 4096 : Nat) : Int), .int .i64 (fr : Int), .int .i64 pm] 85)).drew := (hS2.trans (step_alloc own w2 (.cells #[.int .u64 ((addr / 4096 : Nat) : Int), .int .i64 (fr : Int), .int .i64 pm] 85))).drew
  have hB : Blk (w2.alloc (.cells #[.int .u64 ((addr / 4096 : Nat) : Int), .int .i64 (fr : Int), .int .i64 pm] 85)).drew w2.heap.size 85 #[.int .u64 ((addr / 4096 : Nat) : Int), .int .i64 (fr : Int), .int .i64 pm] := (Blk.new w2 _ _).drew
  have hM2 := HG.out.1.step hstA (fun h => h)
  have hc0 := (HG.out.2.step hstA (fun h => h) (fun h => h)).c0.1
  have LT := Lib.hid (And.intro (HG.out.2.step hstA (fun h => h) (fun h => h)).c0.2.2 hB.lt)
  have HN := Lib.hid (view_number hM2 fr (by omega))
  have hB1 : (w2.alloc (.cells #[.int .u64 ((addr / 4096 : Nat) : Int), .int .i64 (fr : Int), .int .i64 pm] 85)).drew.cell? ⟨w2.heap.size, 1, none⟩ = some (.int .i64 (fr : Int)) := hB.cell 1
  have H2 := Lib.hid hstA
  clear hS2 hstA hM2 HF HG hB
  go_wp2_with fail
  (try rw [show ((addr : Int) / 4096) = ((addr / 4096 : Nat) : Int) from by omega])
  generalize hvv : w2.heap.size = vb at *
  have hmw : IntKind.u64.wrap ((fr : Int) * 4096) = (fr : Int) * 4096 := IntWalk.u64_in _ (by omega)
  have haw : IntKind.u64.wrap ((fr : Int) * 4096 + (addr : Int) % 4096) = (fr : Int) * 4096 + (addr : Int) % 4096 := IntWalk.u64_in _ (by omega)
  refine wpE_region (S := fun (W' : World) => W'.cell? ⟨sp, 0, none⟩ = some (.pointer (some ⟨rp, 0, none⟩)) ∧ W'.cell? ⟨vb, 1, none⟩ = some (.int .i64 (fr : Int))) (s := 11) (by kernel_rfl) ?_
  have hS : (fun (W' : World) => W'.cell? ⟨sp, 0, none⟩ = some (.pointer (some ⟨rp, 0, none⟩)) ∧ W'.cell? ⟨vb, 1, none⟩ = some (.int .i64 (fr : Int))) _ := ⟨hc0, hB1⟩
  refine wpE_take (i := 0) (oi := { dst := some 14, op := Go.Op.move (Go.Operand.tmp 0), type := 59, pos := "stage.go:264", after := #[], guard := none }) (v := ?_) rfl (by kernel_rfl) (fun _ _ _ h => h) (Or.inl ⟨by rfl, fun W hW => ?_⟩) hS ?_
  rotate_left
  · obtain ⟨hw1, hw2⟩ := hW; go_simp; (try go_bits); (try rw [if_pos (by omega)]); (try with_reducible rfl)
  (try simp only [Act.put, List.setIfInBounds_toArray, List.set_cons_succ, List.set_cons_zero])
  refine wpE_take (i := 1) (oi := { dst := some 15, op := Go.Op.nilCheck (Go.Operand.tmp 14), type := 0, pos := "stage.go:264", after := #[{ on := 0, ground := Go.Ground.data }], guard := none }) (v := ?_) rfl (by kernel_rfl) (fun _ _ _ h => h) (Or.inl ⟨by rfl, fun W hW => ?_⟩) hS ?_
  rotate_left
  · obtain ⟨hw1, hw2⟩ := hW; go_simp; (try go_bits); (try rw [if_pos (by omega)]); (try with_reducible rfl)
  (try simp only [Act.put, List.setIfInBounds_toArray, List.set_cons_succ, List.set_cons_zero])
  refine wpE_take (i := 2) (oi := { dst := some 16, op := Go.Op.fieldAddr 181 (Go.Operand.tmp 15) 0, type := 0, pos := "stage.go:264", after := #[{ on := 1, ground := Go.Ground.data }], guard := none }) (v := ?_) rfl (by kernel_rfl) (fun _ _ _ h => h) (Or.inl ⟨by rfl, fun W hW => ?_⟩) hS ?_
  rotate_left
  · obtain ⟨hw1, hw2⟩ := hW; go_simp; (try go_bits); (try rw [if_pos (by omega)]); (try with_reducible rfl)
  (try simp only [Act.put, List.setIfInBounds_toArray, List.set_cons_succ, List.set_cons_zero])
  refine wpE_take (i := 3) (oi := { dst := some 17, op := Go.Op.load 179 (Go.Operand.tmp 16), type := 179, pos := "stage.go:264", after := #[{ on := 2, ground := Go.Ground.data }], guard := none }) (v := viewV rp) rfl (by kernel_rfl) (fun _ _ _ h => h) (Or.inl ⟨by rfl, fun W hW => ?_⟩) hS ?_
  · obtain ⟨hw1, hw2⟩ := hW; go_simp; (try go_bits); (try rw [if_pos (by omega)]); (try with_reducible rfl)
  (try simp only [Act.put, List.setIfInBounds_toArray, List.set_cons_succ, List.set_cons_zero])
  refine wpE_take (i := 4) (oi := { dst := some 18, op := Go.Op.fieldAddr 85 (Go.Operand.tmp 5) 1, type := 0, pos := "stage.go:264", after := #[], guard := none }) (v := ?_) rfl (by kernel_rfl) (fun _ _ _ h => h) (Or.inl ⟨by rfl, fun W hW => ?_⟩) hS ?_
  rotate_left
  · obtain ⟨hw1, hw2⟩ := hW; go_simp; (try go_bits); (try rw [if_pos (by omega)]); (try with_reducible rfl)
  (try simp only [Act.put, List.setIfInBounds_toArray, List.set_cons_succ, List.set_cons_zero])
  refine wpE_take (i := 5) (oi := { dst := some 19, op := Go.Op.load 3 (Go.Operand.tmp 18), type := 3, pos := "stage.go:264", after := #[{ on := 4, ground := Go.Ground.data }], guard := none }) (v := ?_) rfl (by kernel_rfl) (fun _ _ _ h => h) (Or.inl ⟨by rfl, fun W hW => ?_⟩) hS ?_
  rotate_left
  · obtain ⟨hw1, hw2⟩ := hW; go_simp; (try go_bits); (try rw [if_pos (by omega)]); (try with_reducible rfl)
  (try simp only [Act.put, List.setIfInBounds_toArray, List.set_cons_succ, List.set_cons_zero])
  refine wpE_take (i := 8) (oi := { dst := some 22, op := Go.Op.move (Go.Operand.tmp 1), type := 30, pos := "stage.go:264", after := #[], guard := none }) (v := ?_) rfl (by kernel_rfl) (fun _ _ _ h => h) (Or.inl ⟨by rfl, fun W hW => ?_⟩) hS ?_
  rotate_left
  · obtain ⟨hw1, hw2⟩ := hW; go_simp; (try go_bits); (try rw [if_pos (by omega)]); (try with_reducible rfl)
  (try simp only [Act.put, List.setIfInBounds_toArray, List.set_cons_succ, List.set_cons_zero])
  refine wpE_take (i := 9) (oi := { dst := some 23, op := Go.Op.binOp Go.BinOp.rem 30 (Go.Operand.tmp 22) (Go.Operand.const (Go.Value.int Go.IntKind.u64 4096)) 30, type := 30, pos := "stage.go:264", after := #[{ on := 8, ground := Go.Ground.data }], guard := none }) (v := .int .u64 ((addr : Int) % 4096)) rfl (by kernel_rfl) (fun _ _ _ h => h) (Or.inl ⟨by rfl, fun W hW => ?_⟩) hS ?_
  · obtain ⟨hw1, hw2⟩ := hW; go_simp; (try go_bits); (try trivial)
  (try simp only [Act.put, List.setIfInBounds_toArray, List.set_cons_succ, List.set_cons_zero])
  refine wpE_only (i := 6) (oi := { dst := some 20, op := Go.Op.call { callee := Go.Callee.value (Go.Operand.func 97), args := #[Go.Operand.tmp 17, Go.Operand.tmp 19], argTypes := #[179, 3] }, type := 30, pos := "stage.go:264", after := #[{ on := 3, ground := Go.Ground.data }, { on := 5, ground := Go.Ground.data }], guard := none }) rfl (by kernel_rfl) (by rfl) (fun K hK => ?_)
  go_simp
  refine HN.out.mono ?_; rintro e w5 ⟨rfl, hS5⟩
  have hS : w5.cell? ⟨sp, 0, none⟩ = some (.pointer (some ⟨rp, 0, none⟩)) ∧ w5.cell? ⟨vb, 1, none⟩ = some (.int .i64 (fr : Int)) := ⟨(hS5.upd.cell (p := ⟨sp, 0, none⟩) LT.out.1 (fun h => h)).trans hS.1, (hS5.upd.cell (p := ⟨vb, 1, none⟩) LT.out.2 (fun h => h)).trans hS.2⟩
  have H3 := Lib.hid (H2.out.trans hS5)
  clear hS5 H2 HN
  refine hK _ _ hS ?_; clear hK K
  (try simp only [Act.put, List.setIfInBounds_toArray, List.set_cons_succ, List.set_cons_zero])
  refine wpE_take (i := 7) (oi := { dst := some 21, op := Go.Op.binOp Go.BinOp.mul 30 (Go.Operand.tmp 20) (Go.Operand.const (Go.Value.int Go.IntKind.u64 4096)) 30, type := 30, pos := "stage.go:264", after := #[{ on := 6, ground := Go.Ground.data }], guard := none }) (v := .int .u64 ((fr : Int) * 4096)) rfl (by kernel_rfl) (fun _ _ _ h => h) (Or.inl ⟨by rfl, fun W hW => ?_⟩) hS ?_
  · obtain ⟨hw1, hw2⟩ := hW; go_simp; (try rw [hmw])
  (try simp only [Act.put, List.setIfInBounds_toArray, List.set_cons_succ, List.set_cons_zero])
  refine wpE_take (i := 10) (oi := { dst := some 24, op := Go.Op.binOp Go.BinOp.add 30 (Go.Operand.tmp 21) (Go.Operand.tmp 23) 30, type := 30, pos := "stage.go:264", after := #[{ on := 7, ground := Go.Ground.data }, { on := 9, ground := Go.Ground.data }], guard := none }) (v := .int .u64 ((fr : Int) * 4096 + (addr : Int) % 4096)) rfl (by kernel_rfl) (fun _ _ _ h => h) (Or.inl ⟨by rfl, fun W hW => ?_⟩) hS ?_
  · obtain ⟨hw1, hw2⟩ := hW; go_simp; (try rw [haw])
  (try simp only [Act.put, List.setIfInBounds_toArray, List.set_cons_succ, List.set_cons_zero])
  refine wpE_last (oi := { dst := some 4, op := Go.Op.assign (Go.Operand.tmp 24), type := 30, pos := "stage.go:264", after := #[{ on := 10, ground := Go.Ground.data }, { on := 6, ground := Go.Ground.chain }, { on := 0, ground := Go.Ground.phase }, { on := 1, ground := Go.Ground.phase }, { on := 2, ground := Go.Ground.phase }, { on := 3, ground := Go.Ground.phase }, { on := 4, ground := Go.Ground.phase }, { on := 5, ground := Go.Ground.phase }, { on := 6, ground := Go.Ground.phase }, { on := 7, ground := Go.Ground.phase }, { on := 8, ground := Go.Ground.phase }, { on := 9, ground := Go.Ground.phase }, { on := 10, ground := Go.Ground.phase }], guard := none }) rfl (by kernel_rfl) (by kernel_rfl) (by rfl) (fun K hK => ?_)
  go_simp; (try go_bits); refine hK _ _ ?_; clear hK K
  go_wp2
  go_ret
  exact ⟨by go_num, H3.out⟩
/-- where the bytes of a guest's number lie -/
def paG (fr : Nat → Nat) (addr j : Nat) : Nat := fr ((addr + j) / 4096) * 4096 + (addr + j) % 4096
set_option maxHeartbeats 2000000 in
theorem sp_Write_ok {fr : Nat → Nat} {pm : Nat → Int} {D : Nat → Prop} (addr k : Nat) (v : Int) (hk : k = 1 ∨ k = 2 ∨ k = 4 ∨ k = 8) (ha : addr + k ≤ 549755813888) (hv : wfU v) (hG : GS own w sp rp pp vmid n res harts s ((t0 : Int) :: ts))
    (hst : ∀ m' : Nat → Int, (∀ x, ¬ D (x / 4096) → m' x = s.m x) → MapOk n m' t0 (addr / 4096) ((addr + k - 1) / 4096) fr pm) (hD : ∀ page, addr / 4096 ≤ page → page ≤ (addr + k - 1) / 4096 → D (fr page))
    (hpm : ∀ page, addr / 4096 ≤ page → page ≤ (addr + k - 1) / 4096 → (bits .and .i64 (pm page) 4 == 0) = false) :
    Calls Try.prog 42 #[.pointer (some ⟨sp, 0, none⟩), .int .u64 (addr : Int), .int .i64 (k : Int), .int .u64 v] w fun e w' => e = .returned (.bool true) ∧ ∃ own', Step CS own w own' w' ∧ GS own' w' sp rp pp vmid n res harts ⟨s.ow, s.bt, wrG s.m (paG fr addr) v k, s.cnt⟩ ((t0 : Int) :: ts) := by
  have hk8 : 1 ≤ k ∧ k ≤ 8 := by omega
  have HW := Lib.hid (st_whole (k : Int) w (by omega))
  have h0 := hst s.m (fun _ _ => rfl)
  have HH := Lib.hid (sp_Has_ok addr k (by omega) ha hG.1.2 hG.2 h0)
  have hn := hG.1.2.sizes.2.2
  have HX := Lib.hid (And.intro hG (And.intro hst (And.intro hD (And.intro hpm h0))))
  clear hG hst hD hpm h0 hk
  obtain ⟨hv0, hv1⟩ := hv
  go_enter Try.func42, Try.ntmps42
  go_wp2_with fail
  refine HW.out.mono ?_; rintro e w1 ⟨rfl, rfl⟩
  go_wp2_with fail
  refine HH.out.mono ?_; rintro e w1 ⟨rfl, hS1⟩
  have H1 := Lib.hid hS1
  clear HW HH hS1
  go_wp2
  go_loopw [24] (fun i wr => ∃ j : Nat, j ≤ k ∧ i = .int .i64 (j : Int) ∧ Hid (Step (fun _ => False) own w own wr)) (fun i _ => k - (intOf i).toNat)
  case atStart => exact ⟨0, by omega, rfl, H1.out⟩
  case round =>
    obtain ⟨j, hj, rfl, HR⟩ := hrel
    by_cases hlt : j < k
    · have hlt' : (j : Int) < (k : Int) := by omega
      have hpg : addr / 4096 ≤ (addr + j) / 4096 ∧ (addr + j) / 4096 ≤ (addr + k - 1) / 4096 := by omega
      have hF := sp_FindE (HX.out.1.1.2.step HR.out (fun h => h)) (HX.out.1.2.step HR.out (fun h => h) (fun h => h)) (HX.out.2.2.2.2 _ hpg.1 hpg.2)
      have hb4 := HX.out.2.2.2.1 _ hpg.1 hpg.2
      generalize fr ((addr + j) / 4096) = f1 at *
      generalize pm ((addr + j) / 4096) = q1 at *
      have HF := Lib.hid hF
      have HB4 := Lib.hid hb4
      have hwa : IntKind.u64.wrap ((addr : Int) + (j : Int)) = (addr : Int) + (j : Int) := IntWalk.u64_in _ (by omega)
      clear hF hb4 hpg
      go_wp2_with fail
      refine (HF.out _ (by omega)).mono ?_; rintro e w2 ⟨rfl, hS2⟩
      have H2 := Lib.hid ((HR.out.trans hS2).trans (step_alloc own w2 (.cells #[.int .u64 (((addr + j) / 4096 : Nat) : Int), .int .i64 (f1 : Int), .int .i64 q1] 85)))
      have hb4 := HB4.out
      clear hS2 HF HR hwa
      go_wp2
      exact ⟨⟨j + 1, by omega, by go_num, H2.out⟩, by simp [intOf]; omega⟩
    · obtain rfl : j = k := by omega
      have hlt' : ¬ (j : Int) < (j : Int) := by omega
      have H2 := Lib.hid HR.out
      clear HR H1
      go_wp2
      go_loopw [43] (fun i wr => ∃ q : Nat, q ≤ j ∧ i = .int .i64 (q : Int) ∧ Hid (∃ own', Step CS own w own' wr ∧ GS own' wr sp rp pp vmid n res harts ⟨s.ow, s.bt, wrG s.m (paG fr addr) v q, s.cnt⟩ ((t0 : Int) :: ts))) (fun i _ => j - (intOf i).toNat)
      case atStart => exact ⟨0, by omega, rfl, own, H2.out.mono (fun _ h => h.elim), HX.out.1.step H2.out (by simp)⟩
      case round =>
        obtain ⟨q, hq, rfl, HR⟩ := hrel
        by_cases hlt2 : q < j
        · have hlt2' : (q : Int) < (j : Int) := by omega
          have hpg : addr / 4096 ≤ (addr + q) / 4096 ∧ (addr + q) / 4096 ≤ (addr + j - 1) / 4096 := by omega
          obtain ⟨own3, hS, hG⟩ := HR.out
          have hstd : Step (fun _ => False) own3 wr own3 wr.drew := (Step.refl _ _ _).drew
          have hGd := hG.step hstd (by simp)
          have hmo := HX.out.2.1 (wrG s.m (fun x => if x < q then paG fr addr x else fr (addr / 4096) * 4096) v q) (fun x hx => wrG_far (D := D) (fun i => by
            by_cases hi : i < q
            · rw [if_pos hi]; unfold paG
              rw [show (fr ((addr + i) / 4096) * 4096 + (addr + i) % 4096) / 4096 = fr ((addr + i) / 4096) from by omega]
              exact HX.out.2.2.1 _ (by omega) (by omega)
            · rw [if_neg hi, show fr (addr / 4096) * 4096 / 4096 = fr (addr / 4096) from by omega]
              exact HX.out.2.2.1 _ (by omega) (by omega)) q x hx)
          have hcg : ∀ z, z ≤ q → wrG s.m (fun x => if x < q then paG fr addr x else fr (addr / 4096) * 4096) v z = wrG s.m (paG fr addr) v z := by
            intro z
            induction z with
            | zero => intro _; rfl
            | succ z ih => intro hz; simp only [wrG]; rw [ih (by omega), if_pos (by omega)]
          rw [hcg q (Nat.le_refl _)] at hmo
          have hpk := hmo _ hpg.1 hpg.2
          have HPl := Lib.hid (sp_place (addr + q) (by omega) hGd.1.2 hGd.2 hpk)
          have hfl := hpk.lt
          have c0 := hGd.2.c0.1
          have H3 := Lib.hid (And.intro (hS.trans (hstd.mono (fun _ h => h.elim))) hGd)
          have hwa : IntKind.u64.wrap ((addr : Int) + (q : Int)) = (addr : Int) + (q : Int) := IntWalk.u64_in _ (by omega)
          have hsb := shr_byte v q
          have HSB := Lib.hid hsb
          have hpa : paG fr addr q = fr ((addr + q) / 4096) * 4096 + (addr + q) % 4096 := rfl
          have HPA := Lib.hid hpa
          clear hS hG hstd hGd hmo hcg hpk HR hsb hpa
          have hx0 : 0 ≤ v / 2 ^ (8 * q) := Int.ediv_nonneg hv0 (by have := Int.pow_pos (n := 2) (m := 8 * q) (by decide); omega)
          have hx1 : v / 2 ^ (8 * q) < 18446744073709551616 := Int.lt_of_le_of_lt (Int.ediv_le_self _ hv0) hv1
          have HXX := Lib.hid (And.intro hx0 hx1)
          have h8q : IntKind.i64.wrap (8 * (q : Int)) = 8 * (q : Int) := IntWalk.i64_in _ (by omega)
          obtain ⟨pa, hpae⟩ : ∃ pa, fr ((addr + q) / 4096) * 4096 + (addr + q) % 4096 = pa := ⟨_, rfl⟩
          have hpab : pa + 1 ≤ n * 4096 := by omega
          rw [hpae] at HPl HPA
          clear hx0 hx1 hpae hfl
          go_wp2_with fail
          refine wpE_region (S := fun (W' : World) => W'.cell? ⟨sp, 0, none⟩ = some (.pointer (some ⟨rp, 0, none⟩))) (s := 15) (by kernel_rfl) ?_
          have hS : (fun (W' : World) => W'.cell? ⟨sp, 0, none⟩ = some (.pointer (some ⟨rp, 0, none⟩))) _ := c0
          refine wpE_take (i := 0) (oi := { dst := some 46, op := Go.Op.move (Go.Operand.tmp 0), type := 59, pos := "stage.go:293", after := #[], guard := none }) (v := ?_) rfl (by kernel_rfl) (fun _ _ _ h => h) (Or.inl ⟨by rfl, fun W hW => ?_⟩) hS ?_
          rotate_left
          · (have hw1 : W.cell? ⟨sp, 0, none⟩ = some (.pointer (some ⟨rp, 0, none⟩)) := hW); go_simp; (try go_bits); (try rw [if_pos (by omega)]); (try with_reducible rfl)
          (try simp only [Act.put, List.setIfInBounds_toArray, List.set_cons_succ, List.set_cons_zero])
          refine wpE_take (i := 1) (oi := { dst := some 47, op := Go.Op.nilCheck (Go.Operand.tmp 46), type := 0, pos := "stage.go:293", after := #[{ on := 0, ground := Go.Ground.data }], guard := none }) (v := ?_) rfl (by kernel_rfl) (fun _ _ _ h => h) (Or.inl ⟨by rfl, fun W hW => ?_⟩) hS ?_
          rotate_left
          · (have hw1 : W.cell? ⟨sp, 0, none⟩ = some (.pointer (some ⟨rp, 0, none⟩)) := hW); go_simp; (try go_bits); (try rw [if_pos (by omega)]); (try with_reducible rfl)
          (try simp only [Act.put, List.setIfInBounds_toArray, List.set_cons_succ, List.set_cons_zero])
          refine wpE_take (i := 2) (oi := { dst := some 48, op := Go.Op.fieldAddr 181 (Go.Operand.tmp 47) 0, type := 0, pos := "stage.go:293", after := #[{ on := 1, ground := Go.Ground.data }], guard := none }) (v := ?_) rfl (by kernel_rfl) (fun _ _ _ h => h) (Or.inl ⟨by rfl, fun W hW => ?_⟩) hS ?_
          rotate_left
          · (have hw1 : W.cell? ⟨sp, 0, none⟩ = some (.pointer (some ⟨rp, 0, none⟩)) := hW); go_simp; (try go_bits); (try rw [if_pos (by omega)]); (try with_reducible rfl)
          (try simp only [Act.put, List.setIfInBounds_toArray, List.set_cons_succ, List.set_cons_zero])
          refine wpE_take (i := 3) (oi := { dst := some 49, op := Go.Op.fieldAddr 179 (Go.Operand.tmp 48) 0, type := 0, pos := "stage.go:293", after := #[{ on := 2, ground := Go.Ground.data }], guard := none }) (v := ?_) rfl (by kernel_rfl) (fun _ _ _ h => h) (Or.inl ⟨by rfl, fun W hW => ?_⟩) hS ?_
          rotate_left
          · (have hw1 : W.cell? ⟨sp, 0, none⟩ = some (.pointer (some ⟨rp, 0, none⟩)) := hW); go_simp; (try go_bits); (try rw [if_pos (by omega)]); (try with_reducible rfl)
          (try simp only [Act.put, List.setIfInBounds_toArray, List.set_cons_succ, List.set_cons_zero])
          refine wpE_take (i := 4) (oi := { dst := some 50, op := Go.Op.load 24 (Go.Operand.tmp 49), type := 24, pos := "stage.go:293", after := #[{ on := 3, ground := Go.Ground.data }], guard := none }) (v := ?_) rfl (by kernel_rfl) (fun _ _ _ h => h) (Or.inl ⟨by rfl, fun W hW => ?_⟩) hS ?_
          rotate_left
          · (have hw1 : W.cell? ⟨sp, 0, none⟩ = some (.pointer (some ⟨rp, 0, none⟩)) := hW); go_simp; (try go_bits); (try rw [if_pos (by omega)]); (try with_reducible rfl)
          (try simp only [Act.put, List.setIfInBounds_toArray, List.set_cons_succ, List.set_cons_zero])
          refine wpE_take (i := 5) (oi := { dst := some 51, op := Go.Op.move (Go.Operand.tmp 0), type := 59, pos := "stage.go:293", after := #[], guard := none }) (v := ?_) rfl (by kernel_rfl) (fun _ _ _ h => h) (Or.inl ⟨by rfl, fun W hW => ?_⟩) hS ?_
          rotate_left
          · (have hw1 : W.cell? ⟨sp, 0, none⟩ = some (.pointer (some ⟨rp, 0, none⟩)) := hW); go_simp; (try go_bits); (try rw [if_pos (by omega)]); (try with_reducible rfl)
          (try simp only [Act.put, List.setIfInBounds_toArray, List.set_cons_succ, List.set_cons_zero])
          refine wpE_take (i := 6) (oi := { dst := some 52, op := Go.Op.move (Go.Operand.tmp 1), type := 30, pos := "stage.go:293", after := #[], guard := none }) (v := ?_) rfl (by kernel_rfl) (fun _ _ _ h => h) (Or.inl ⟨by rfl, fun W hW => ?_⟩) hS ?_
          rotate_left
          · (have hw1 : W.cell? ⟨sp, 0, none⟩ = some (.pointer (some ⟨rp, 0, none⟩)) := hW); go_simp; (try go_bits); (try rw [if_pos (by omega)]); (try with_reducible rfl)
          (try simp only [Act.put, List.setIfInBounds_toArray, List.set_cons_succ, List.set_cons_zero])
          refine wpE_take (i := 7) (oi := { dst := some 53, op := Go.Op.move (Go.Operand.tmp 12), type := 3, pos := "stage.go:293", after := #[], guard := none }) (v := ?_) rfl (by kernel_rfl) (fun _ _ _ h => h) (Or.inl ⟨by rfl, fun W hW => ?_⟩) hS ?_
          rotate_left
          · (have hw1 : W.cell? ⟨sp, 0, none⟩ = some (.pointer (some ⟨rp, 0, none⟩)) := hW); go_simp; (try go_bits); (try rw [if_pos (by omega)]); (try with_reducible rfl)
          (try simp only [Act.put, List.setIfInBounds_toArray, List.set_cons_succ, List.set_cons_zero])
          refine wpE_take (i := 8) (oi := { dst := some 54, op := Go.Op.convert 3 30 (Go.Operand.tmp 53), type := 30, pos := "stage.go:293", after := #[{ on := 7, ground := Go.Ground.data }], guard := none }) (v := .int .u64 (q : Int)) rfl (by kernel_rfl) (fun _ _ _ h => h) (Or.inl ⟨by rfl, fun W hW => ?_⟩) hS ?_
          · (have hw1 : W.cell? ⟨sp, 0, none⟩ = some (.pointer (some ⟨rp, 0, none⟩)) := hW); go_simp; (try go_bits); (try trivial)
          (try simp only [Act.put, List.setIfInBounds_toArray, List.set_cons_succ, List.set_cons_zero])
          refine wpE_take (i := 9) (oi := { dst := some 55, op := Go.Op.binOp Go.BinOp.add 30 (Go.Operand.tmp 52) (Go.Operand.tmp 54) 30, type := 30, pos := "stage.go:293", after := #[{ on := 6, ground := Go.Ground.data }, { on := 8, ground := Go.Ground.data }], guard := none }) (v := .int .u64 ((addr : Int) + (q : Int))) rfl (by kernel_rfl) (fun _ _ _ h => h) (Or.inl ⟨by rfl, fun W hW => ?_⟩) hS ?_
          · (have hw1 : W.cell? ⟨sp, 0, none⟩ = some (.pointer (some ⟨rp, 0, none⟩)) := hW); go_simp; (try rw [hwa]); (try trivial)
          (try simp only [Act.put, List.setIfInBounds_toArray, List.set_cons_succ, List.set_cons_zero])
          refine wpE_take (i := 11) (oi := { dst := some 57, op := Go.Op.move (Go.Operand.tmp 3), type := 30, pos := "stage.go:293", after := #[], guard := none }) (v := ?_) rfl (by kernel_rfl) (fun _ _ _ h => h) (Or.inl ⟨by rfl, fun W hW => ?_⟩) hS ?_
          rotate_left
          · (have hw1 : W.cell? ⟨sp, 0, none⟩ = some (.pointer (some ⟨rp, 0, none⟩)) := hW); go_simp; (try go_bits); (try rw [if_pos (by omega)]); (try with_reducible rfl)
          (try simp only [Act.put, List.setIfInBounds_toArray, List.set_cons_succ, List.set_cons_zero])
          refine wpE_take (i := 12) (oi := { dst := some 58, op := Go.Op.move (Go.Operand.tmp 12), type := 3, pos := "stage.go:293", after := #[], guard := none }) (v := ?_) rfl (by kernel_rfl) (fun _ _ _ h => h) (Or.inl ⟨by rfl, fun W hW => ?_⟩) hS ?_
          rotate_left
          · (have hw1 : W.cell? ⟨sp, 0, none⟩ = some (.pointer (some ⟨rp, 0, none⟩)) := hW); go_simp; (try go_bits); (try rw [if_pos (by omega)]); (try with_reducible rfl)
          (try simp only [Act.put, List.setIfInBounds_toArray, List.set_cons_succ, List.set_cons_zero])
          refine wpE_take (i := 13) (oi := { dst := some 59, op := Go.Op.binOp Go.BinOp.mul 3 (Go.Operand.const (Go.Value.int Go.IntKind.i64 8)) (Go.Operand.tmp 58) 3, type := 3, pos := "stage.go:293", after := #[{ on := 12, ground := Go.Ground.data }], guard := none }) (v := .int .i64 (8 * (q : Int))) rfl (by kernel_rfl) (fun _ _ _ h => h) (Or.inl ⟨by rfl, fun W hW => ?_⟩) hS ?_
          · (have hw1 : W.cell? ⟨sp, 0, none⟩ = some (.pointer (some ⟨rp, 0, none⟩)) := hW); go_simp; (try rw [h8q]); (try trivial)
          (try simp only [Act.put, List.setIfInBounds_toArray, List.set_cons_succ, List.set_cons_zero])
          refine wpE_take (i := 14) (oi := { dst := some 60, op := Go.Op.binOp Go.BinOp.shr 30 (Go.Operand.tmp 57) (Go.Operand.tmp 59) 3, type := 30, pos := "stage.go:293", after := #[{ on := 11, ground := Go.Ground.data }, { on := 13, ground := Go.Ground.data }], guard := none }) (v := .int .u64 (v / 2 ^ (8 * q))) rfl (by kernel_rfl) (fun _ _ _ h => h) (Or.inl ⟨by rfl, fun W hW => ?_⟩) hS ?_
          · (have hw1 : W.cell? ⟨sp, 0, none⟩ = some (.pointer (some ⟨rp, 0, none⟩)) := hW); go_simp; (try go_bits); (try trivial)
          (try simp only [Act.put, List.setIfInBounds_toArray, List.set_cons_succ, List.set_cons_zero])
          refine wpE_only (i := 10) (oi := { dst := some 56, op := Go.Op.call { callee := Go.Callee.value (Go.Operand.func 99), args := #[Go.Operand.tmp 51, Go.Operand.tmp 55], argTypes := #[59, 30] }, type := 30, pos := "stage.go:293", after := #[{ on := 5, ground := Go.Ground.data }, { on := 9, ground := Go.Ground.data }], guard := none }) rfl (by kernel_rfl) (by rfl) (fun K hK => ?_)
          go_simp
          refine (HPl.out _ (by omega)).mono ?_; rintro e w5 ⟨rfl, hS5⟩
          have hG5 := H3.out.2.step hS5 (by simp)
          have hS : w5.cell? ⟨sp, 0, none⟩ = some (.pointer (some ⟨rp, 0, none⟩)) := hG5.2.c0.1
          have H5 := Lib.hid (And.intro (H3.out.1.trans (hS5.mono (fun _ h => h.elim))) hG5)
          clear hS5 hG5 H3 HPl
          refine hK _ _ hS ?_; clear hK K
          (try simp only [Act.put, List.setIfInBounds_toArray, List.set_cons_succ, List.set_cons_zero])
          refine wpE_last (oi := { dst := some 61, op := Go.Op.call { callee := Go.Callee.value (Go.Operand.func 28), args := #[Go.Operand.tmp 50, Go.Operand.tmp 56, Go.Operand.const (Go.Value.int Go.IntKind.i64 1), Go.Operand.tmp 60], argTypes := #[24, 30, 3, 30] }, type := 4, pos := "stage.go:293", after := #[{ on := 4, ground := Go.Ground.data }, { on := 10, ground := Go.Ground.data }, { on := 14, ground := Go.Ground.data }, { on := 10, ground := Go.Ground.chain }], guard := none }) rfl (by kernel_rfl) (by kernel_rfl) (by rfl) (fun K hK => ?_)
          go_simp
          have hV := ram_Write H5.out.2.1.2 (pa : Int) 1 (v / 2 ^ (8 * q)) (by omega) (by have := hn; omega) (by omega) (by omega) HXX.out.1 HXX.out.2
          rw [wr1 hpab, HSB.out] at hV
          refine hV.mono ?_; rintro e w6 ⟨rfl, own6, hS6, hM6⟩
          have hP6 := H5.out.2.1.1.step hS6 (by omega)
          have hSp6 := H5.out.2.2.step hS6 (by omega) (by omega)
          have H6 := Lib.hid (And.intro (H5.out.1.trans (hS6.mono (fun x h => Or.inl h))) (And.intro hP6 (And.intro hM6 hSp6)))
          clear hV hS6 hP6 hM6 hSp6 hS H5
          refine hK _ _ ?_; clear hK K
          go_wp2
          refine ⟨⟨q + 1, by omega, by go_num, own6, H6.out.1, ⟨H6.out.2.1, ?_⟩, H6.out.2.2.2⟩, by simp [intOf]; omega⟩
          show MemAt ramK own6 1 w6 rp 0 n (setB (wrG s.m (paG fr addr) v q) (paG fr addr q) (byteOf v q))
          rw [HPA.out]
          exact H6.out.2.2.1
        · obtain rfl : q = j := by omega
          go_wp2
          go_ret
          exact ⟨rfl, HR.out⟩
theorem sp_Tables (hS : SpAt own w sp rp pp vmid ts) (hl : 0 < ts.length ∧ ts.length ≤ 1024) :
    Calls Try.prog 49 #[.pointer (some ⟨sp, 0, none⟩)] w fun e w' => ∃ v', e = .returned v' ∧ Row (ext own w 0) 0 w' v' ts ∧ Upd (fun _ => False) w w' := by
  obtain ⟨v, hB, hR⟩ := hS
  have c3 : w.cell? ⟨sp, 3, none⟩ = some v := hB.1.cell 3
  obtain ⟨A, cap, rfl, hf⟩ := hR.form
  obtain ⟨g, rfl, _, hg, hc⟩ := hf (by rintro rfl; simp at hl)
  obtain ⟨ie, hie, hiz, his, hib⟩ := info_parts info_int
  have HR := Lib.hid hc
  obtain ⟨hl0, hl1⟩ := hl
  clear hB hR hf hc
  go_enter Try.func49, Try.ntmps49
  go_wp2_with ((with_reducible show wpList _ _ _ ((⟨some 7, _, _, _, _, _⟩ : Oper) :: _) _ _); refine wpList_append_any _ rfl (.const (.slice none 0 0)) (.tmp 6) _ rfl w.heap.size 3 ie _ 1 8 Try.underlying45 hie hiz his hib rfl (by omega) (.slice none 0 0) 0 [] rfl (World.ownsRow_nil _ _ _ _) w.heap.size (some ⟨g, 0, none⟩) ts.length cap (ts.map (.int .i64)) rfl ⟨by simp, fun _ => ⟨_, rfl, hg, fun j u hu => by
    rw [List.getElem?_map] at hu
    obtain ⟨x, hx, rfl⟩ := Option.map_eq_some_iff.1 hu
    have := HR.out j x hx
    rw [Addr.add_lit]; simpa using this⟩⟩ (by intro u hu; obtain ⟨x, _, rfl⟩ := List.mem_map.1 hu; simp [Value.oneCell']) (by unfold maxLen; omega) (by omega) (Nat.le_refl _) ?_)
  intro v2 w3 hown2 hg2 hob2
  have hU : Upd (fun _ => False) w w3 := (Upd.refl _ _).grown hg2 (fun k e => by cases e)
  have hrow : Row (ext own w 0) 0 w3 v2 ts := by
    refine ⟨?_, fun g' e => ?_⟩
    · have := ownsRow_base0 hown2
      simpa using this
    · rcases hob2 with h | h
      · rw [h] at e; cases e
      · rw [h] at e; cases e
        exact ext_new _ _ _ (Nat.le_refl _)
  have H := Lib.hid (And.intro hrow hU)
  clear hown2 hg2 hob2 hU hrow
  go_wp2
  go_ret
  exact ⟨v2, rfl, H.out⟩
end
end Go.Proofs.Ytpodeclkgcgpgaa
