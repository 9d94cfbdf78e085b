import Derived.Test.YtpodeclkgcgpgaaPref2
/- The document's pool: New. -/
namespace Go.Proofs.Ytpodeclkgcgpgaa
set_option linter.unusedVariables false
open Go.RowKit
set_option maxRecDepth 100000

theorem info_ints : (Try.prog.info? 45).map (fun i => (i.zero, i.size, i.bytes)) = some (some (.slice none 0 0), 1, 24) := by kernel_rfl
theorem rows_make (n : Nat) (hn : n ≤ 1024) (w : World) : (Instr.makeSlice 120 (.int .i64 (n : Int)) (.int .i64 (n : Int))).run Try.prog w = .ok (.slice (some ⟨w.heap.size, 0, none⟩) n n) (w.alloc (.cells (Array.replicate n (.slice none 0 0)) 45)) := by
  obtain ⟨ie, hi, hz, hs, hb⟩ := info_parts info_ints
  exact run_make1 w _ _ ie _ Try.underlying120 hi hz hs rfl _ _ n (by rw [hb]; omega) (by omega)
theorem RelA.fresh (n r : Nat) (hr : r ≤ n) : RelA (initO n r) (List.replicate n 0) (List.replicate n []) := by
  have hl := initO_len hr
  refine ⟨by simp [hl], by simp [hl], fun k l b h1 h2 h3 => ?_, fun k o b h1 h2 h3 => ?_⟩
  · have := Rng.init n r
    exfalso
    unfold initO at h1
    have hm := List.mem_of_getElem? h1
    rcases List.mem_append.1 hm with h | h
    · have := (List.mem_replicate.1 h).2; omega
    · have := (List.mem_replicate.1 h).2; omega
  · have hm := List.mem_of_getElem? h3
    exact (List.mem_replicate.1 hm).2
section
variable {own : Nat → Nat} {c cr rp n base : Nat} {w : World} {m : Nat → Int}
theorem PrIn.fresh1 (own : Nat → Nat) (c rp n r h : Nat) (w : World) (hc : c < 100) (hn : n ≤ 1024) :
    Step (fun _ => False) own w (ext own w c) (((w.drew.alloc (.cells (Array.replicate n (.int .i64 0)) 3)).alloc (.cells (Array.replicate n (.slice none 0 0)) 45)).alloc (.cells (prC rp w.heap.size (w.heap.size + 1) n r h) 174)) ∧
    PrIn (ext own w c) c (((w.drew.alloc (.cells (Array.replicate n (.int .i64 0)) 3)).alloc (.cells (Array.replicate n (.slice none 0 0)) 45)).alloc (.cells (prC rp w.heap.size (w.heap.size + 1) n r h) 174)) (w.heap.size + 2) rp w.heap.size (w.heap.size + 1) n r h (initO n 0) (List.replicate n (.slice none 0 0)) (List.replicate n []) n := by
  have h1 := Blk.new w.drew 3 (Array.replicate n (.int .i64 0))
  have h2 := Blk.new (w.drew.alloc (.cells (Array.replicate n (.int .i64 0)) 3)) 45 (Array.replicate n (.slice none 0 0))
  have h3 := Blk.new ((w.drew.alloc (.cells (Array.replicate n (.int .i64 0)) 3)).alloc (.cells (Array.replicate n (.slice none 0 0)) 45)) 174 (prC rp w.heap.size (w.heap.size + 1) n r h)
  rw [World.size_alloc] at h2
  rw [World.size_alloc, World.size_alloc] at h3
  refine ⟨⟨((((Upd.refl _ _).drew).alloc _).alloc _).alloc _, fun b hb => ext_old _ _ _ hb⟩, ⟨h3, ext_new _ _ _ (by omega), ?_, ext_new _ _ _ (by omega), ?_, ext_new _ _ _ (by omega), initO_len (by omega), by simp, by simp, hn, hc, fun k v l hx hv hl => ?_⟩⟩
  · have e : ((initO n 0).map (Value.int .i64)).toArray = Array.replicate n (Value.int .i64 0) := by simp [initO]
    rw [e]; exact (h1.alloc _).alloc _
  · rw [List.toArray_replicate]; exact h2.alloc _
  · have hv' := (List.mem_replicate.1 (List.mem_of_getElem? hv)).2
    have hl' := (List.mem_replicate.1 (List.mem_of_getElem? hl)).2
    subst hv'; subst hl'
    exact ⟨Row.nil _ _ _, by simp⟩
theorem PrIn.fresh2 (own : Nat → Nat) (c rp n r h : Nat) (w : World) (hc : c < 100) (hn : n ≤ 1024) :
    Step (fun _ => False) own w (ext own w c) (((w.drew.alloc (.cells (Array.replicate n (.slice none 0 0)) 45)).alloc (.cells (Array.replicate n (.int .i64 0)) 3)).alloc (.cells (prC rp (w.heap.size + 1) w.heap.size n r h) 174)) ∧
    PrIn (ext own w c) c (((w.drew.alloc (.cells (Array.replicate n (.slice none 0 0)) 45)).alloc (.cells (Array.replicate n (.int .i64 0)) 3)).alloc (.cells (prC rp (w.heap.size + 1) w.heap.size n r h) 174)) (w.heap.size + 2) rp (w.heap.size + 1) w.heap.size n r h (initO n 0) (List.replicate n (.slice none 0 0)) (List.replicate n []) n := by
  have h1 := Blk.new w.drew 45 (Array.replicate n (.slice none 0 0))
  have h2 := Blk.new (w.drew.alloc (.cells (Array.replicate n (.slice none 0 0)) 45)) 3 (Array.replicate n (.int .i64 0))
  have h3 := Blk.new ((w.drew.alloc (.cells (Array.replicate n (.slice none 0 0)) 45)).alloc (.cells (Array.replicate n (.int .i64 0)) 3)) 174 (prC rp (w.heap.size + 1) w.heap.size n r h)
  rw [World.size_alloc] at h2
  rw [World.size_alloc, World.size_alloc] at h3
  refine ⟨⟨((((Upd.refl _ _).drew).alloc _).alloc _).alloc _, fun b hb => ext_old _ _ _ hb⟩, ⟨h3, ext_new _ _ _ (by omega), ?_, ext_new _ _ _ (by omega), ?_, ext_new _ _ _ (by omega), initO_len (by omega), by simp, by simp, hn, hc, fun k v l hx hv hl => ?_⟩⟩
  · have e : ((initO n 0).map (Value.int .i64)).toArray = Array.replicate n (Value.int .i64 0) := by simp [initO]
    rw [e]; exact h2.alloc _
  · rw [List.toArray_replicate]; exact (h1.alloc _).alloc _
  · have hv' := (List.mem_replicate.1 (List.mem_of_getElem? hv)).2
    have hl' := (List.mem_replicate.1 (List.mem_of_getElem? hl)).2
    subst hv'; subst hl'
    exact ⟨Row.nil _ _ _, by simp⟩
theorem pr_New (hR : MemAt refK own cr w rp base n m) (r h : Nat) (hr : r ≤ n) (h1 : 1 ≤ h) (h8 : h ≤ 8) (c : Nat) (hc : c < 100) :
    Calls Try.prog 30 #[.pointer (some ⟨rp, 0, none⟩), .int .i64 (r : Int), .int .i64 (h : Int)] w fun e w' => ∃ pp own', e = .returned (.tuple #[.pointer (some ⟨pp, 0, none⟩), .int .i64 0]) ∧
      Step (fun _ => False) own w own' w' ∧ PrAt own' c w' pp rp n r h (initO n r) (List.replicate n 0) := by
  have hn : n ≤ 1024 := hR.sizes.2.2
  obtain ⟨q, fs, hIn, rfl⟩ := hR
  have hb : Blk w rp 90 #[.int .u64 (base : Int), .int .i64 (fs.length : Int), .slice (some ⟨q, 0, none⟩) fs.length fs.length] := hIn.bp
  have hc1 : w.cell? ⟨rp, 1, none⟩ = some (.int .i64 (fs.length : Int)) := hb.cell 1
  have HB := Lib.hid hb
  clear hIn hb
  generalize fs.length = n at *
  go_enter Try.func30, Try.ntmps30
  go_wp2_with fail
  refine wpE_region (S := fun (W' : World) => Blk W' rp 90 #[.int .u64 (base : Int), .int .i64 (n : Int), .slice (some ⟨q, 0, none⟩) n n]) (s := 15) (by kernel_rfl) ?_
  have hS : (fun (W' : World) => Blk W' rp 90 #[.int .u64 (base : Int), .int .i64 (n : Int), .slice (some ⟨q, 0, none⟩) n n]) _ := HB.out.drew
  refine wpE_take (i := 0) (oi := { dst := some 28, op := Go.Op.move (Go.Operand.tmp 0), type := 25, pos := "ref.go:23", after := #[], guard := none }) (v := ?_) rfl (by kernel_rfl) (fun _ _ _ h => h) (Or.inl ⟨by rfl, fun W hW => ?_⟩) hS ?_
  rotate_left
  · (have hw1 : W.cell? ⟨rp, 1, none⟩ = some (.int .i64 (n : Int)) := hW.cell 1); go_simp; (try go_bits); (try rw [if_pos (by omega)]); (try with_reducible rfl)
  (try simp only [Act.put, List.setIfInBounds_toArray, List.set_cons_succ, List.set_cons_zero])
  refine wpE_take (i := 1) (oi := { dst := some 29, op := Go.Op.move (Go.Operand.tmp 1), type := 3, pos := "ref.go:23", after := #[], guard := none }) (v := ?_) rfl (by kernel_rfl) (fun _ _ _ h => h) (Or.inl ⟨by rfl, fun W hW => ?_⟩) hS ?_
  rotate_left
  · (have hw1 : W.cell? ⟨rp, 1, none⟩ = some (.int .i64 (n : Int)) := hW.cell 1); go_simp; (try go_bits); (try rw [if_pos (by omega)]); (try with_reducible rfl)
  (try simp only [Act.put, List.setIfInBounds_toArray, List.set_cons_succ, List.set_cons_zero])
  refine wpE_take (i := 2) (oi := { dst := some 30, op := Go.Op.move (Go.Operand.tmp 2), type := 3, pos := "ref.go:23", after := #[], guard := none }) (v := ?_) rfl (by kernel_rfl) (fun _ _ _ h => h) (Or.inl ⟨by rfl, fun W hW => ?_⟩) hS ?_
  rotate_left
  · (have hw1 : W.cell? ⟨rp, 1, none⟩ = some (.int .i64 (n : Int)) := hW.cell 1); go_simp; (try go_bits); (try rw [if_pos (by omega)]); (try with_reducible rfl)
  (try simp only [Act.put, List.setIfInBounds_toArray, List.set_cons_succ, List.set_cons_zero])
  refine wpE_take (i := 3) (oi := { dst := some 31, op := Go.Op.move (Go.Operand.tmp 0), type := 25, pos := "ref.go:23", after := #[], guard := none }) (v := ?_) rfl (by kernel_rfl) (fun _ _ _ h => h) (Or.inl ⟨by rfl, fun W hW => ?_⟩) hS ?_
  rotate_left
  · (have hw1 : W.cell? ⟨rp, 1, none⟩ = some (.int .i64 (n : Int)) := hW.cell 1); go_simp; (try go_bits); (try rw [if_pos (by omega)]); (try with_reducible rfl)
  (try simp only [Act.put, List.setIfInBounds_toArray, List.set_cons_succ, List.set_cons_zero])
  refine wpE_take (i := 4) (oi := { dst := some 32, op := Go.Op.nilCheck (Go.Operand.tmp 31), type := 0, pos := "ref.go:23", after := #[{ on := 3, ground := Go.Ground.data }], guard := none }) (v := ?_) rfl (by kernel_rfl) (fun _ _ _ h => h) (Or.inl ⟨by rfl, fun W hW => ?_⟩) hS ?_
  rotate_left
  · (have hw1 : W.cell? ⟨rp, 1, none⟩ = some (.int .i64 (n : Int)) := hW.cell 1); go_simp; (try go_bits); (try rw [if_pos (by omega)]); (try with_reducible rfl)
  (try simp only [Act.put, List.setIfInBounds_toArray, List.set_cons_succ, List.set_cons_zero])
  refine wpE_take (i := 5) (oi := { dst := some 33, op := Go.Op.fieldAddr 90 (Go.Operand.tmp 32) 1, type := 0, pos := "ref.go:23", after := #[{ on := 4, ground := Go.Ground.data }], guard := none }) (v := ?_) rfl (by kernel_rfl) (fun _ _ _ h => h) (Or.inl ⟨by rfl, fun W hW => ?_⟩) hS ?_
  rotate_left
  · (have hw1 : W.cell? ⟨rp, 1, none⟩ = some (.int .i64 (n : Int)) := hW.cell 1); go_simp; (try go_bits); (try rw [if_pos (by omega)]); (try with_reducible rfl)
  (try simp only [Act.put, List.setIfInBounds_toArray, List.set_cons_succ, List.set_cons_zero])
  refine wpE_take (i := 6) (oi := { dst := some 34, op := Go.Op.load 3 (Go.Operand.tmp 33), type := 3, pos := "ref.go:23", after := #[{ on := 5, ground := Go.Ground.data }], guard := none }) (v := ?_) rfl (by kernel_rfl) (fun _ _ _ h => h) (Or.inl ⟨by rfl, fun W hW => ?_⟩) hS ?_
  rotate_left
  · (have hw1 : W.cell? ⟨rp, 1, none⟩ = some (.int .i64 (n : Int)) := hW.cell 1); go_simp; (try go_bits); (try rw [if_pos (by omega)]); (try with_reducible rfl)
  (try simp only [Act.put, List.setIfInBounds_toArray, List.set_cons_succ, List.set_cons_zero])
  refine wpE_take (i := 8) (oi := { dst := some 36, op := Go.Op.move (Go.Operand.tmp 0), type := 25, pos := "ref.go:23", after := #[], guard := none }) (v := ?_) rfl (by kernel_rfl) (fun _ _ _ h => h) (Or.inl ⟨by rfl, fun W hW => ?_⟩) hS ?_
  rotate_left
  · (have hw1 : W.cell? ⟨rp, 1, none⟩ = some (.int .i64 (n : Int)) := hW.cell 1); go_simp; (try go_bits); (try rw [if_pos (by omega)]); (try with_reducible rfl)
  (try simp only [Act.put, List.setIfInBounds_toArray, List.set_cons_succ, List.set_cons_zero])
  refine wpE_take (i := 9) (oi := { dst := some 37, op := Go.Op.nilCheck (Go.Operand.tmp 36), type := 0, pos := "ref.go:23", after := #[{ on := 8, ground := Go.Ground.data }], guard := none }) (v := ?_) rfl (by kernel_rfl) (fun _ _ _ h => h) (Or.inl ⟨by rfl, fun W hW => ?_⟩) hS ?_
  rotate_left
  · (have hw1 : W.cell? ⟨rp, 1, none⟩ = some (.int .i64 (n : Int)) := hW.cell 1); go_simp; (try go_bits); (try rw [if_pos (by omega)]); (try with_reducible rfl)
  (try simp only [Act.put, List.setIfInBounds_toArray, List.set_cons_succ, List.set_cons_zero])
  refine wpE_take (i := 10) (oi := { dst := some 38, op := Go.Op.fieldAddr 90 (Go.Operand.tmp 37) 1, type := 0, pos := "ref.go:23", after := #[{ on := 9, ground := Go.Ground.data }], guard := none }) (v := ?_) rfl (by kernel_rfl) (fun _ _ _ h => h) (Or.inl ⟨by rfl, fun W hW => ?_⟩) hS ?_
  rotate_left
  · (have hw1 : W.cell? ⟨rp, 1, none⟩ = some (.int .i64 (n : Int)) := hW.cell 1); go_simp; (try go_bits); (try rw [if_pos (by omega)]); (try with_reducible rfl)
  (try simp only [Act.put, List.setIfInBounds_toArray, List.set_cons_succ, List.set_cons_zero])
  refine wpE_take (i := 11) (oi := { dst := some 39, op := Go.Op.load 3 (Go.Operand.tmp 38), type := 3, pos := "ref.go:23", after := #[{ on := 10, ground := Go.Ground.data }], guard := none }) (v := ?_) rfl (by kernel_rfl) (fun _ _ _ h => h) (Or.inl ⟨by rfl, fun W hW => ?_⟩) hS ?_
  rotate_left
  · (have hw1 : W.cell? ⟨rp, 1, none⟩ = some (.int .i64 (n : Int)) := hW.cell 1); go_simp; (try go_bits); (try rw [if_pos (by omega)]); (try with_reducible rfl)
  (try simp only [Act.put, List.setIfInBounds_toArray, List.set_cons_succ, List.set_cons_zero])
  refine wpE_two (i := 7) (oi := { dst := some 35, op := Go.Op.makeSlice 45 (Go.Operand.tmp 34) (Go.Operand.tmp 34), type := 45, pos := "ref.go:23", after := #[{ on := 6, ground := Go.Ground.data }, { on := 6, ground := Go.Ground.data }], guard := none }) (j := 12) (oj := { dst := some 40, op := Go.Op.makeSlice 120 (Go.Operand.tmp 39) (Go.Operand.tmp 39), type := 120, pos := "ref.go:23", after := #[{ on := 11, ground := Go.Ground.data }, { on := 11, ground := Go.Ground.data }], guard := none }) rfl rfl (by kernel_rfl) (by rfl) (by rfl) (fun K hK => ?_) (fun K hK => ?_)
  refine wp_run (exec_make rfl _ _ rfl rfl (int_make n hn _)) ?_
  have hS := hS.alloc (.cells (Array.replicate n (.int .i64 0)) 3)
  refine hK _ _ hS ?_; clear hK K
  (try simp only [Act.put, List.setIfInBounds_toArray, List.set_cons_succ, List.set_cons_zero])
  refine wpE_only (i := 12) (oi := { dst := some 40, op := Go.Op.makeSlice 120 (Go.Operand.tmp 39) (Go.Operand.tmp 39), type := 120, pos := "ref.go:23", after := #[{ on := 11, ground := Go.Ground.data }, { on := 11, ground := Go.Ground.data }], guard := none }) rfl (by kernel_rfl) (by rfl) (fun K hK => ?_)
  refine wp_run (exec_make rfl _ _ rfl rfl (rows_make n hn _)) ?_
  have hS := hS.alloc (.cells (Array.replicate n (.slice none 0 0)) 45)
  refine hK _ _ hS ?_; clear hK K
  (try simp only [Act.put, List.setIfInBounds_toArray, List.set_cons_succ, List.set_cons_zero])
  refine wpE_take (i := 13) (oi := { dst := some 41, op := Go.Op.build 174 #[(0, Go.Operand.tmp 28), (1, Go.Operand.tmp 29), (2, Go.Operand.tmp 30), (3, Go.Operand.tmp 35), (4, Go.Operand.tmp 40)], type := 174, pos := "ref.go:23", after := #[{ on := 0, ground := Go.Ground.data }, { on := 1, ground := Go.Ground.data }, { on := 2, ground := Go.Ground.data }, { on := 7, ground := Go.Ground.data }, { on := 12, ground := Go.Ground.data }], guard := none }) (v := ?_) rfl (by kernel_rfl) (fun _ _ _ h => h) (Or.inl ⟨by rfl, fun W hW => ?_⟩) hS ?_
  rotate_left
  · (have hw1 : W.cell? ⟨rp, 1, none⟩ = some (.int .i64 (n : Int)) := hW.cell 1); go_simp; (try go_bits); (try rw [if_pos (by omega)]); (try with_reducible rfl)
  (try simp only [Act.put, List.setIfInBounds_toArray, List.set_cons_succ, List.set_cons_zero])
  refine wpE_only (i := 14) (oi := { dst := some 42, op := Go.Op.box 174 (Go.Operand.tmp 41), type := 52, pos := "ref.go:23", after := #[{ on := 13, ground := Go.Ground.data }], guard := none }) rfl (by kernel_rfl) (by rfl) (fun K hK => ?_)
  go_simp
  refine hK _ _ (hS.alloc _) ?_; clear hK K
  (try simp only [Act.put, List.setIfInBounds_toArray, List.set_cons_succ, List.set_cons_zero])
  refine wpE_last (oi := { dst := some 8, op := Go.Op.assign (Go.Operand.tmp 42), type := 52, pos := "ref.go:23", after := #[{ on := 14, ground := Go.Ground.data }, { on := 0, ground := Go.Ground.phase }, { on := 1, ground := Go.Ground.phase }, { on := 2, ground := Go.Ground.phase }, { on := 3, ground := Go.Ground.phase }, { on := 4, ground := Go.Ground.phase }, { on := 5, ground := Go.Ground.phase }, { on := 6, ground := Go.Ground.phase }, { on := 7, ground := Go.Ground.phase }, { on := 8, ground := Go.Ground.phase }, { on := 9, ground := Go.Ground.phase }, { on := 10, ground := Go.Ground.phase }, { on := 11, ground := Go.Ground.phase }, { on := 12, ground := Go.Ground.phase }, { on := 13, ground := Go.Ground.phase }, { on := 14, ground := Go.Ground.phase }], guard := none }) rfl (by kernel_rfl) (by kernel_rfl) (by rfl) (fun K hK => ?_)
  go_simp; (try go_bits); refine hK _ _ ?_; clear hK K
  rotate_left
  refine wp_run (exec_make rfl _ _ rfl rfl (rows_make n hn _)) ?_
  have hS := hS.alloc (.cells (Array.replicate n (.slice none 0 0)) 45)
  refine hK _ _ hS ?_; clear hK K
  (try simp only [Act.put, List.setIfInBounds_toArray, List.set_cons_succ, List.set_cons_zero])
  refine wpE_only (i := 7) (oi := { dst := some 35, op := Go.Op.makeSlice 45 (Go.Operand.tmp 34) (Go.Operand.tmp 34), type := 45, pos := "ref.go:23", after := #[{ on := 6, ground := Go.Ground.data }, { on := 6, ground := Go.Ground.data }], guard := none }) rfl (by kernel_rfl) (by rfl) (fun K hK => ?_)
  refine wp_run (exec_make rfl _ _ rfl rfl (int_make n hn _)) ?_
  have hS := hS.alloc (.cells (Array.replicate n (.int .i64 0)) 3)
  refine hK _ _ hS ?_; clear hK K
  (try simp only [Act.put, List.setIfInBounds_toArray, List.set_cons_succ, List.set_cons_zero])
  refine wpE_take (i := 13) (oi := { dst := some 41, op := Go.Op.build 174 #[(0, Go.Operand.tmp 28), (1, Go.Operand.tmp 29), (2, Go.Operand.tmp 30), (3, Go.Operand.tmp 35), (4, Go.Operand.tmp 40)], type := 174, pos := "ref.go:23", after := #[{ on := 0, ground := Go.Ground.data }, { on := 1, ground := Go.Ground.data }, { on := 2, ground := Go.Ground.data }, { on := 7, ground := Go.Ground.data }, { on := 12, ground := Go.Ground.data }], guard := none }) (v := ?_) rfl (by kernel_rfl) (fun _ _ _ h => h) (Or.inl ⟨by rfl, fun W hW => ?_⟩) hS ?_
  rotate_left
  · (have hw1 : W.cell? ⟨rp, 1, none⟩ = some (.int .i64 (n : Int)) := hW.cell 1); go_simp; (try go_bits); (try rw [if_pos (by omega)]); (try with_reducible rfl)
  (try simp only [Act.put, List.setIfInBounds_toArray, List.set_cons_succ, List.set_cons_zero])
  refine wpE_only (i := 14) (oi := { dst := some 42, op := Go.Op.box 174 (Go.Operand.tmp 41), type := 52, pos := "ref.go:23", after := #[{ on := 13, ground := Go.Ground.data }], guard := none }) rfl (by kernel_rfl) (by rfl) (fun K hK => ?_)
  go_simp
  refine hK _ _ (hS.alloc _) ?_; clear hK K
  (try simp only [Act.put, List.setIfInBounds_toArray, List.set_cons_succ, List.set_cons_zero])
  refine wpE_last (oi := { dst := some 8, op := Go.Op.assign (Go.Operand.tmp 42), type := 52, pos := "ref.go:23", after := #[{ on := 14, ground := Go.Ground.data }, { on := 0, ground := Go.Ground.phase }, { on := 1, ground := Go.Ground.phase }, { on := 2, ground := Go.Ground.phase }, { on := 3, ground := Go.Ground.phase }, { on := 4, ground := Go.Ground.phase }, { on := 5, ground := Go.Ground.phase }, { on := 6, ground := Go.Ground.phase }, { on := 7, ground := Go.Ground.phase }, { on := 8, ground := Go.Ground.phase }, { on := 9, ground := Go.Ground.phase }, { on := 10, ground := Go.Ground.phase }, { on := 11, ground := Go.Ground.phase }, { on := 12, ground := Go.Ground.phase }, { on := 13, ground := Go.Ground.phase }, { on := 14, ground := Go.Ground.phase }], guard := none }) rfl (by kernel_rfl) (by kernel_rfl) (by rfl) (fun K hK => ?_)
  go_simp; (try go_bits); refine hK _ _ ?_; clear hK K
  rotate_left
  all_goals
    first
    | (have hP := PrIn.fresh1 own c rp n r h w hc hn; have hX : ∃ qo qw, w.heap.size ≤ qo ∧ PrIn (ext own w c) c (((w.drew.alloc (.cells (Array.replicate n (.int .i64 0)) 3)).alloc (.cells (Array.replicate n (.slice none 0 0)) 45)).alloc (.cells (prC rp w.heap.size (w.heap.size + 1) n r h) 174)) (w.heap.size + 2) rp qo qw n r h (initO n 0) (List.replicate n (.slice none 0 0)) (List.replicate n []) n := ⟨_, _, (by omega), hP.2⟩
       have H0 := Lib.hid (And.intro hP.1 hX)
       clear hP hX
       go_wp2
       go_loopw [9] (fun i wr => ∃ k : Nat, k ≤ r ∧ i = .int .i64 (k : Int) ∧ Hid (Step (fun _ => False) own w (ext own w c) wr ∧ ∃ qo qw, w.heap.size ≤ qo ∧ PrIn (ext own w c) c wr (w.heap.size + 2) rp qo qw n r h (initO n k) (List.replicate n (.slice none 0 0)) (List.replicate n []) n)) (fun i _ => r - (intOf i).toNat)
       case atStart => exact ⟨0, by omega, rfl, H0.out⟩)
    | (have hP := PrIn.fresh2 own c rp n r h w hc hn; have hX : ∃ qo qw, w.heap.size ≤ qo ∧ PrIn (ext own w c) c (((w.drew.alloc (.cells (Array.replicate n (.slice none 0 0)) 45)).alloc (.cells (Array.replicate n (.int .i64 0)) 3)).alloc (.cells (prC rp (w.heap.size + 1) w.heap.size n r h) 174)) (w.heap.size + 2) rp qo qw n r h (initO n 0) (List.replicate n (.slice none 0 0)) (List.replicate n []) n := ⟨_, _, (by omega), hP.2⟩
       have H0 := Lib.hid (And.intro hP.1 hX)
       clear hP hX
       go_wp2
       go_loopw [9] (fun i wr => ∃ k : Nat, k ≤ r ∧ i = .int .i64 (k : Int) ∧ Hid (Step (fun _ => False) own w (ext own w c) wr ∧ ∃ qo qw, w.heap.size ≤ qo ∧ PrIn (ext own w c) c wr (w.heap.size + 2) rp qo qw n r h (initO n k) (List.replicate n (.slice none 0 0)) (List.replicate n []) n)) (fun i _ => r - (intOf i).toNat)
       case atStart => exact ⟨0, by omega, rfl, H0.out⟩)
    case round =>
      obtain ⟨k, hk, rfl, HR⟩ := hrel
      by_cases hlt : k < r
      · have hlt' : (k : Int) < (r : Int) := by omega
        obtain ⟨hS, qo, qw, hqo, hP⟩ := HR.out
        have h3 := hP.c3
        have hz := hP.bo.frozen k
        have hcc := hP.cellO k
        obtain ⟨u, hu⟩ : ∃ u, (initO n k)[k]? = some u := ⟨_, List.getElem?_eq_getElem (by rw [hP.lo]; omega)⟩
        rw [hu, Option.map_some] at hcc
        clear hu
        have H1 := Lib.hid (And.intro hS hP)
        clear hS hP HR
        go_wp2
        refine ⟨⟨k + 1, by omega, by go_num, ⟨H1.out.1.upd.setCell (p := ⟨qo, k, none⟩) (.inr hqo) _, H1.out.1.old⟩, qo, qw, hqo, by rw [← initO_set (by omega)]; exact H1.out.2.setO k (-1)⟩, by simp [intOf]; omega⟩
      · obtain rfl : k = r := by omega
        obtain ⟨hS, qo, qw, hqo, hP⟩ := HR.out
        have H1 := Lib.hid (And.intro hS hP)
        clear hS hP HR H0
        go_wp2
        go_ret2
        exact ⟨_, _, rfl, H1.out.1, qo, qw, _, _, H1.out.2, RelA.fresh _ _ hr⟩
end
end Go.Proofs.Ytpodeclkgcgpgaa
