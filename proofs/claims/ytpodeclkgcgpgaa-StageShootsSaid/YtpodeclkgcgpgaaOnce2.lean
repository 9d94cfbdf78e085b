import Derived.Test.YtpodeclkgcgpgaaOnce
namespace Go.Proofs.Ytpodeclkgcgpgaa
set_option linter.unusedVariables false
open Go.RowKit
set_option maxRecDepth 100000

/-- the world behind the Once's first run: the list is made, the Once done, the lock free -/
def onceW (w : World) (pp n : Nat) : World :=
  ((((w.setCell ⟨pp, 5, none⟩ (.int .i32 1)).setCell ⟨pp, 7, none⟩ (.slice (some ⟨w.heap.size, 0, none⟩) n n)).alloc (.cells (Array.replicate n (.int .u64 0)) 167)).drew.drew.setCell ⟨pp, 4, none⟩ (.int .u32 1)).setCell ⟨pp, 5, none⟩ (.int .i32 0)
theorem info_au64 : (Try.prog.info? 167).map (fun i => (i.zero, i.size, i.bytes)) = some (some (.agg #[.int .u64 0]), 1, 8) := by kernel_rfl

theorem au64_make (n : Nat) (hn : n ≤ 1024) (w : World) : (Instr.makeSlice 161 (.int .i64 (n : Int)) (.int .i64 (n : Int))).run Try.prog w = .ok (.slice (some ⟨w.heap.size, 0, none⟩) n n) (w.alloc (.cells (Array.replicate n (.int .u64 0)) 167)) := by
  obtain ⟨ie, hi, hz, hs, hb⟩ := info_parts info_au64
  have hb' : (ie.bytes : Int) * (n : Int) ≤ 281474976710656 := by rw [hb]; omega
  have := run_make w 161 _ ie _ Try.underlying161 hi hz .i64 .i64 n n (by omega) (Int.le_refl _) hb' (by omega)
  simp only [Int.toNat_natCast, hs, Nat.mul_one, Value.cells] at this
  rw [show madeCells #[.int .u64 0] n = Array.replicate n (.int .u64 0) from by rw [make_cells]] at this
  exact this

set_option maxHeartbeats 1600000 in
theorem once_slow (pp : Nat) (lb : Nat) (hpb : lb ≠ pp) (n capO : Nat) (AO : Option Addr) (hn : n ≤ 1024) (w : World) (hp : w.cell? ⟨lb, 0, none⟩ = some (.pointer (some ⟨pp, 0, none⟩))) (hpl : lb < w.heap.size) (hlt : pp < w.heap.size)
    (h3 : w.cell? ⟨pp, 3, none⟩ = some (.slice AO n capO)) (h4 : w.cell? ⟨pp, 4, none⟩ = some (.int .u32 0)) (h5 : w.cell? ⟨pp, 5, none⟩ = some (.int .i32 0)) (h7 : w.cell? ⟨pp, 7, none⟩ = some (.slice none 0 0))
    (f4 : w.frozen? ⟨pp, 4, none⟩ = false) (f5 : w.frozen? ⟨pp, 5, none⟩ = false) (f7 : w.frozen? ⟨pp, 7, none⟩ = false) :
    Calls Try.prog 160 #[.pointer (some ⟨pp, 4, none⟩), .func (.func 126) #[] #[.pointer (some ⟨lb, 0, none⟩)]] w fun e w' => e = .returned (.tuple #[]) ∧ w' = onceW w pp n := by
  have hl := run_call_load (P := Try.prog) Try.func158 (by kernel_rfl) (by kernel_rfl) (by kernel_rfl) .u32 (by kernel_rfl) (w := w.setCell ⟨pp, 5, none⟩ (.int .i32 1)) (a := ⟨pp, 4, none⟩) (x := 0) ((World.cell?_setCell_other _ ⟨pp, 5, none⟩ ⟨pp, 4, none⟩ _ (by simp)).trans h4)
  have hnot : ∀ (x : Bool) (w : World), (Op.unary .not (.bool x)).run Try.prog w = .ok (.bool (!x)) w := fun _ _ => rfl
  go_enter_defers Try.func160, Try.ntmps160
  go_wp2_with (go_at_call 164; refine (lock_free ⟨pp, 5, none⟩ _ (by go_simp) (by go_simp)).mono ?_; rintro e w' ⟨rfl, rfl⟩)
  go_wp2_with (first | ((with_reducible show wpList _ _ _ ((⟨some 7, _, _, _, _, _⟩ : Oper) :: _) _ _); refine wpList_make rfl _ _ _ rfl _ _ rfl rfl (au64_make n hn _) ?_) | go_in)
  have g1 : (w.setCell ⟨pp, 5, none⟩ (.int .i32 1)).drew.cell? ⟨lb, 0, none⟩ = some (.pointer (some ⟨pp, 0, none⟩)) := by go_simp
  have g2 : (w.setCell ⟨pp, 5, none⟩ (.int .i32 1)).drew.cell? ⟨pp, 3, none⟩ = some (.slice AO n capO) := by go_simp
  refine wpE_region (S := fun (W' : World) => W'.cell? ⟨lb, 0, none⟩ = some (.pointer (some ⟨pp, 0, none⟩)) ∧ W'.cell? ⟨pp, 3, none⟩ = some (.slice AO n capO)) (s := 9) (by kernel_rfl) ?_
  have hS : (fun (W' : World) => W'.cell? ⟨lb, 0, none⟩ = some (.pointer (some ⟨pp, 0, none⟩)) ∧ W'.cell? ⟨pp, 3, none⟩ = some (.slice AO n capO)) _ := ⟨g1, g2⟩
  refine wpE_take (i := 0) (oi := { dst := some 1, op := Go.Op.load 31 (Go.Operand.tmp 0), type := 31, pos := "frame.go:39", after := #[], guard := none }) (v := ?_) rfl (by kernel_rfl) (fun _ _ _ h => h) (Or.inl ⟨by rfl, fun W hW => ?_⟩) hS ?_
  rotate_left
  · obtain ⟨hw1, hw2⟩ := hW; go_simp; (try go_bits); (try rw [if_pos (by omega)]); (try with_reducible rfl)
  (try simp only [Act.put, List.setIfInBounds_toArray, List.set_cons_succ, List.set_cons_zero])
  refine wpE_take (i := 1) (oi := { dst := some 2, op := Go.Op.load 31 (Go.Operand.tmp 0), type := 31, pos := "frame.go:39", after := #[], guard := none }) (v := ?_) rfl (by kernel_rfl) (fun _ _ _ h => h) (Or.inl ⟨by rfl, fun W hW => ?_⟩) hS ?_
  rotate_left
  · obtain ⟨hw1, hw2⟩ := hW; go_simp; (try go_bits); (try rw [if_pos (by omega)]); (try with_reducible rfl)
  (try simp only [Act.put, List.setIfInBounds_toArray, List.set_cons_succ, List.set_cons_zero])
  refine wpE_take (i := 2) (oi := { dst := some 3, op := Go.Op.nilCheck (Go.Operand.tmp 2), type := 0, pos := "frame.go:39", after := #[{ on := 1, ground := Go.Ground.data }], guard := none }) (v := ?_) rfl (by kernel_rfl) (fun _ _ _ h => h) (Or.inl ⟨by rfl, fun W hW => ?_⟩) hS ?_
  rotate_left
  · obtain ⟨hw1, hw2⟩ := hW; go_simp; (try go_bits); (try rw [if_pos (by omega)]); (try with_reducible rfl)
  (try simp only [Act.put, List.setIfInBounds_toArray, List.set_cons_succ, List.set_cons_zero])
  refine wpE_take (i := 3) (oi := { dst := some 4, op := Go.Op.fieldAddr 163 (Go.Operand.tmp 3) 3, type := 0, pos := "frame.go:39", after := #[{ on := 2, ground := Go.Ground.data }], guard := none }) (v := ?_) rfl (by kernel_rfl) (fun _ _ _ h => h) (Or.inl ⟨by rfl, fun W hW => ?_⟩) hS ?_
  rotate_left
  · obtain ⟨hw1, hw2⟩ := hW; go_simp; (try go_bits); (try rw [if_pos (by omega)]); (try with_reducible rfl)
  (try simp only [Act.put, List.setIfInBounds_toArray, List.set_cons_succ, List.set_cons_zero])
  refine wpE_take (i := 4) (oi := { dst := some 5, op := Go.Op.load 45 (Go.Operand.tmp 4), type := 45, pos := "frame.go:39", after := #[{ on := 3, ground := Go.Ground.data }], guard := none }) (v := ?_) rfl (by kernel_rfl) (fun _ _ _ h => h) (Or.inl ⟨by rfl, fun W hW => ?_⟩) hS ?_
  rotate_left
  · obtain ⟨hw1, hw2⟩ := hW; go_simp; (try go_bits); (try rw [if_pos (by omega)]); (try with_reducible rfl)
  (try simp only [Act.put, List.setIfInBounds_toArray, List.set_cons_succ, List.set_cons_zero])
  refine wpE_take (i := 5) (oi := { dst := some 6, op := Go.Op.call { callee := Go.Callee.builtin Go.Builtin.len, args := #[Go.Operand.tmp 5], argTypes := #[45] }, type := 3, pos := "frame.go:39", after := #[{ on := 4, ground := Go.Ground.data }], guard := none }) (v := ?_) rfl (by kernel_rfl) (fun _ _ _ h => h) (Or.inl ⟨by rfl, fun W hW => ?_⟩) hS ?_
  rotate_left
  · obtain ⟨hw1, hw2⟩ := hW; go_simp; (try go_bits); (try rw [if_pos (by omega)]); (try with_reducible rfl)
  (try simp only [Act.put, List.setIfInBounds_toArray, List.set_cons_succ, List.set_cons_zero])
  refine wpE_only (i := 6) (oi := { dst := some 7, op := Go.Op.makeSlice 161 (Go.Operand.tmp 6) (Go.Operand.tmp 6), type := 161, pos := "frame.go:39", after := #[{ on := 5, ground := Go.Ground.data }, { on := 5, ground := Go.Ground.data }], guard := none }) rfl (by kernel_rfl) (by rfl) (fun K hK => ?_)
  refine wp_run (exec_make rfl _ _ rfl rfl (au64_make n hn _)) ?_
  have hS : ((w.setCell ⟨pp, 5, none⟩ (.int .i32 1)).drew.alloc (.cells (Array.replicate n (.int .u64 0)) 167)).cell? ⟨lb, 0, none⟩ = some (.pointer (some ⟨pp, 0, none⟩)) ∧ ((w.setCell ⟨pp, 5, none⟩ (.int .i32 1)).drew.alloc (.cells (Array.replicate n (.int .u64 0)) 167)).cell? ⟨pp, 3, none⟩ = some (.slice AO n capO) := ⟨by go_simp, by go_simp⟩
  refine hK _ _ hS ?_; clear hK K
  (try simp only [Act.put, List.setIfInBounds_toArray, List.set_cons_succ, List.set_cons_zero])
  refine wpE_take (i := 7) (oi := { dst := some 8, op := Go.Op.nilCheck (Go.Operand.tmp 1), type := 0, pos := "frame.go:39", after := #[{ on := 0, ground := Go.Ground.data }, { on := 0, ground := Go.Ground.phase }, { on := 1, ground := Go.Ground.phase }, { on := 2, ground := Go.Ground.phase }, { on := 3, ground := Go.Ground.phase }, { on := 4, ground := Go.Ground.phase }, { on := 5, ground := Go.Ground.phase }, { on := 6, ground := Go.Ground.phase }], guard := none }) (v := ?_) rfl (by kernel_rfl) (fun _ _ _ h => h) (Or.inl ⟨by rfl, fun W hW => ?_⟩) hS ?_
  rotate_left
  · obtain ⟨hw1, hw2⟩ := hW; go_simp; (try go_bits); (try rw [if_pos (by omega)]); (try with_reducible rfl)
  (try simp only [Act.put, List.setIfInBounds_toArray, List.set_cons_succ, List.set_cons_zero])
  refine wpE_take (i := 8) (oi := { dst := some 9, op := Go.Op.fieldAddr 163 (Go.Operand.tmp 8) 5, type := 0, pos := "frame.go:39", after := #[{ on := 7, ground := Go.Ground.data }, { on := 0, ground := Go.Ground.phase }, { on := 1, ground := Go.Ground.phase }, { on := 2, ground := Go.Ground.phase }, { on := 3, ground := Go.Ground.phase }, { on := 4, ground := Go.Ground.phase }, { on := 5, ground := Go.Ground.phase }, { on := 6, ground := Go.Ground.phase }], guard := none }) (v := ?_) rfl (by kernel_rfl) (fun _ _ _ h => h) (Or.inl ⟨by rfl, fun W hW => ?_⟩) hS ?_
  rotate_left
  · obtain ⟨hw1, hw2⟩ := hW; go_simp; (try go_bits); (try rw [if_pos (by omega)]); (try with_reducible rfl)
  (try simp only [Act.put, List.setIfInBounds_toArray, List.set_cons_succ, List.set_cons_zero])
  refine wpE_last (oi := { dst := none, op := Go.Op.store 161 (Go.Operand.tmp 9) (Go.Operand.tmp 7), type := 0, pos := "frame.go:39", after := #[{ on := 8, ground := Go.Ground.data }, { on := 6, ground := Go.Ground.data }, { on := 0, ground := Go.Ground.phase }, { on := 1, ground := Go.Ground.phase }, { on := 2, ground := Go.Ground.phase }, { on := 3, ground := Go.Ground.phase }, { on := 4, ground := Go.Ground.phase }, { on := 5, ground := Go.Ground.phase }, { on := 6, ground := Go.Ground.phase }], guard := none }) rfl (by kernel_rfl) (by kernel_rfl) (by rfl) (fun K hK => ?_)
  go_simp; (try go_bits); refine hK _ _ ?_; clear hK K
  go_wp2
  go_end0
  go_wp2
  -- the door: two deferred calls, the last laid first
  refine leaves_cons (f := 166) (args := #[.pointer (some ⟨pp, 4, none⟩), .bool true]) (by simp) (by simp [go_sem]) ?_
  refine (store_deferred ⟨pp, 4, none⟩ (.int .u32 0) .returning _ (by go_simp) (by go_simp)).mono ?_
  rintro e u' w'' ⟨rfl, rfl, rfl⟩
  refine leaves_cons (f := 165) (args := #[.pointer (some ⟨pp, 5, none⟩)]) (by simp [settle]) (by simp [go_sem]) ?_
  refine (unlock_deferred ⟨pp, 5, none⟩ _ _ (by go_simp) (by go_simp)).mono ?_
  rintro e u' w'' ⟨rfl, rfl, rfl⟩
  simp [Leaves, settle, results, onceW]

set_option maxHeartbeats 1600000 in
theorem once_first (pp : Nat) (lb : Nat) (hpb : lb ≠ pp) (n capO : Nat) (AO : Option Addr) (hn : n ≤ 1024) (w : World) (hp : w.cell? ⟨lb, 0, none⟩ = some (.pointer (some ⟨pp, 0, none⟩))) (hpl : lb < w.heap.size) (hlt : pp < w.heap.size)
    (h3 : w.cell? ⟨pp, 3, none⟩ = some (.slice AO n capO)) (h4 : w.cell? ⟨pp, 4, none⟩ = some (.int .u32 0)) (h5 : w.cell? ⟨pp, 5, none⟩ = some (.int .i32 0)) (h7 : w.cell? ⟨pp, 7, none⟩ = some (.slice none 0 0))
    (f4 : w.frozen? ⟨pp, 4, none⟩ = false) (f5 : w.frozen? ⟨pp, 5, none⟩ = false) (f7 : w.frozen? ⟨pp, 7, none⟩ = false) :
    Calls Try.prog 125 #[.pointer (some ⟨pp, 4, none⟩), .func (.func 126) #[] #[.pointer (some ⟨lb, 0, none⟩)]] w fun e w' => e = .returned (.tuple #[]) ∧ w' = onceW w pp n := by
  have hl := run_call_load (P := Try.prog) Try.func158 (by kernel_rfl) (by kernel_rfl) (by kernel_rfl) .u32 (by kernel_rfl) h4
  have hnot : ∀ (x : Bool) (w : World), (Op.unary .not (.bool x)).run Try.prog w = .ok (.bool (!x)) w := fun _ _ => rfl
  have HS := Lib.hid (once_slow pp lb hpb n capO AO hn w hp hpl hlt h3 h4 h5 h7 f4 f5 f7)
  go_enter Try.func125, Try.ntmps125
  go_wp2_with (first | (go_at_call 160; refine HS.out.mono ?_; rintro e w' ⟨rfl, rfl⟩) | (go_at_call 159; go_in))
  go_end0
  exact ⟨rfl, rfl⟩
theorem once_done (a : Addr) (d : Int) (hd : ¬ d = 0) (fv : Value) (w : World) (h0 : w.cell? a = some (.int .u32 d)) :
    Calls Try.prog 125 #[.pointer (some a), fv] w fun e w' => e = .returned (.tuple #[]) ∧ w' = w := by
  have hl := run_call_load (P := Try.prog) Try.func158 (by kernel_rfl) (by kernel_rfl) (by kernel_rfl) .u32 (by kernel_rfl) h0
  have hnot : ∀ (x : Bool) (w : World), (Op.unary .not (.bool x)).run Try.prog w = .ok (.bool (!x)) w := fun _ _ => rfl
  have hd' : (d != 0) = true := by simp [hd]
  go_enter Try.func125, Try.ntmps125
  go_wp2
  go_end0
  exact ⟨rfl, rfl⟩
/-- the atomic numbers -/
theorem au_Load (a : Addr) (x : Int) (w : World) (hc : w.cell? a = some (.int .u64 x)) :
    Calls Try.prog 84 #[.pointer (some a)] w fun e w' => e = .returned (.int .u64 x) ∧ w = w' := by
  have hl := run_call_load (P := Try.prog) Try.func130 (by kernel_rfl) (by kernel_rfl) (by kernel_rfl) .u64 (by kernel_rfl) hc
  go_enter Try.func84, Try.ntmps84
  go_wp2
  go_ret
  exact ⟨rfl, rfl⟩
theorem au_Store (a : Addr) (x : Value) (y : Int) (w : World) (hc : w.cell? a = some x) (hz : w.frozen? a = false) :
    Calls Try.prog 82 #[.pointer (some a), .int .u64 y] w fun e w' => e = .returned (.tuple #[]) ∧ w' = w.setCell a (.int .u64 y) := by
  have hst := run_call_store (P := Try.prog) Try.func127 (by kernel_rfl) (by kernel_rfl) (by kernel_rfl) (by kernel_rfl) (k := .u64) (y := y) hc hz
  go_enter Try.func82, Try.ntmps82
  go_wp2
  go_end0
  exact ⟨rfl, rfl⟩
theorem run_call_upd {P : Program} {f : FuncId} {fn : Func} (hf : P.funcs[f]? = some fn) (hname : (fn.name == "runtime.NumGoroutine") = false) (hb : fn.body.isNone = true) (hn : Extern.findNext fn = none) (k : IntKind) (g : IntKind → Int → Int → Sem Value)
    (he : Extern.find fn = some (Extern.Atomic.update g k false)) {a : Addr} {x y s : Int} {w : World} (hc : w.cell? a = some (.int k x)) (hz : w.frozen? a = false)
    (hs : (g k x y).run P w = .ok (.int k s) w) :
    (callFunc f #[.pointer (some a), .int k y]).run P w = .ok (.value (.int k x)) (w.setCell a (.int k s)) := by
  rw [run_callFunc_extern hf hname hb hn he]
  change (Sem.run P (do
    let a' ← asAddr (.pointer (some a))
    let old ← Extern.Atomic.read (.int k) a'
    let new ← g k (← asInt old) (← asInt (.int k y))
    store a' new .atomic
    pure (if false = true then new else old)) w).andThen _ = _
  simp [Extern.Atomic.read, asAddr, asInt, asIntOf, hc, hz, hs, run_store P w a (.int k s) .atomic rfl, Result.andThen]
theorem au_And (a : Addr) (x y : Int) (w : World) (hc : w.cell? a = some (.int .u64 x)) (hz : w.frozen? a = false) :
    Calls Try.prog 128 #[.pointer (some a), .int .u64 y] w fun e w' => e = .returned (.int .u64 x) ∧ w' = w.setCell a (.int .u64 (bits .and .u64 x y)) := by
  have hst := run_call_upd (P := Try.prog) Try.func161 (by kernel_rfl) (by kernel_rfl) (by kernel_rfl) .u64 (Op.intBits .and) (by kernel_rfl) (x := x) (y := y) (s := bits .and .u64 x y) hc hz rfl
  go_enter Try.func128, Try.ntmps128
  go_wp2
  go_ret
  exact ⟨rfl, rfl⟩

/-- waits: the list of what frames wait for, made at the first call -/
theorem waits_first (pp : Nat) (n capO : Nat) (AO : Option Addr) (hn : n ≤ 1024) (w : World) (hlt : pp < w.heap.size)
    (h3 : w.cell? ⟨pp, 3, none⟩ = some (.slice AO n capO)) (h4 : w.cell? ⟨pp, 4, none⟩ = some (.int .u32 0)) (h5 : w.cell? ⟨pp, 5, none⟩ = some (.int .i32 0)) (h7 : w.cell? ⟨pp, 7, none⟩ = some (.slice none 0 0))
    (f4 : w.frozen? ⟨pp, 4, none⟩ = false) (f5 : w.frozen? ⟨pp, 5, none⟩ = false) (f7 : w.frozen? ⟨pp, 7, none⟩ = false) :
    Calls Try.prog 81 #[.pointer (some ⟨pp, 0, none⟩)] w fun e w' => e = .returned (.slice (some ⟨w.heap.size + 1, 0, none⟩) n n) ∧ w' = onceW (w.alloc (.cells #[.pointer (some ⟨pp, 0, none⟩)] 31)) pp n := by
  have hne : pp ≠ w.heap.size := by omega
  have hne' : w.heap.size ≠ pp := by omega
  have HS := Lib.hid (once_first pp w.heap.size hne' n capO AO hn (w.alloc (.cells #[.pointer (some ⟨pp, 0, none⟩)] 31)) (by go_simp) (by go_simp) (by rw [World.size_alloc]; omega) (by go_simp) (by go_simp) (by go_simp) (by go_simp) (by go_simp) (by go_simp) (by go_simp))
  go_enter Try.func81, Try.ntmps81
  go_wp2_with fail
  refine HS.out.mono ?_; rintro e w' ⟨rfl, rfl⟩
  have hA : (onceW (w.alloc (.cells #[.pointer (some ⟨pp, 0, none⟩)] 31)) pp n).cell? ⟨w.heap.size, 0, none⟩ = some (.pointer (some ⟨pp, 0, none⟩)) := by unfold onceW; go_simp
  have hB : (onceW (w.alloc (.cells #[.pointer (some ⟨pp, 0, none⟩)] 31)) pp n).cell? ⟨pp, 7, none⟩ = some (.slice (some ⟨w.heap.size + 1, 0, none⟩) n n) := by unfold onceW; go_simp
  clear HS
  generalize hW : onceW (w.alloc (.cells #[.pointer (some ⟨pp, 0, none⟩)] 31)) pp n = W at hA hB ⊢
  have HWH := Lib.hid hW
  clear hW
  go_wp2
  go_ret
  exact ⟨rfl, HWH.out.symm⟩
theorem waits_done (pp : Nat) (v : Value) (w : World) (hlt : pp < w.heap.size) (h4 : w.cell? ⟨pp, 4, none⟩ = some (.int .u32 1)) (h7 : w.cell? ⟨pp, 7, none⟩ = some v) :
    Calls Try.prog 81 #[.pointer (some ⟨pp, 0, none⟩)] w fun e w' => e = .returned v ∧ w' = w.alloc (.cells #[.pointer (some ⟨pp, 0, none⟩)] 31) := by
  have hne : pp ≠ w.heap.size := by omega
  have HS := Lib.hid (once_done ⟨pp, 4, none⟩ 1 (by decide) (.func (.func 126) #[] #[.pointer (some ⟨w.heap.size, 0, none⟩)]) (w.alloc (.cells #[.pointer (some ⟨pp, 0, none⟩)] 31)) (by go_simp))
  go_enter Try.func81, Try.ntmps81
  go_wp2_with fail
  refine HS.out.mono ?_; rintro e w' ⟨rfl, rfl⟩
  go_wp2
  go_ret
  exact ⟨rfl, rfl⟩
end Go.Proofs.Ytpodeclkgcgpgaa
