import Derived.Test.YtpodeclkgcgpgaaSr
import Derived.RangeFuncFrom
import Derived.RangeFuncLeaves
import Derived.Shelf.Abstract
/- A guest's space: Pages, where there are none. -/
namespace Go.Proofs.Ytpodeclkgcgpgaa
set_option linter.unusedVariables false
set_option linter.unusedSimpArgs false
open Go.RowKit Go.Shelf
set_option maxRecDepth 100000

section
variable {own : Nat → Nat} {c rp sp pp n t0 : Nat} {res harts vmid : Int} {ts : List Int} {s : PSt} {m : Nat → Int} {w : World}
theorem view_all (rp : Nat) (t : Int) (w : World) :
    Calls Try.prog 101 #[viewV rp, .int .i64 t] w fun e w' => ∃ b1 b2, e = .returned (.func (.func 139) #[] #[.pointer (some ⟨b1, 0, none⟩), .pointer (some ⟨b2, 0, none⟩)]) ∧ Upd (fun _ => False) w w' ∧ w.heap.size ≤ b1 ∧ w.heap.size ≤ b2 ∧
      Blk w' b1 179 #[.pointer (some ⟨rp, 0, none⟩)] ∧ Blk w' b2 3 #[.int .i64 t] := by
  have HB := Lib.hid (And.intro ((Blk.new w 179 #[.pointer (some ⟨rp, 0, none⟩)]).alloc (.cells #[.int .i64 t] 3)) (Blk.new (w.alloc (.cells #[.pointer (some ⟨rp, 0, none⟩)] 179)) 3 #[.int .i64 t]))
  go_enter Try.func101, Try.ntmps101
  go_wp2
  go_ret
  exact ⟨_, _, rfl, ((Upd.refl _ _).alloc _).alloc _, Nat.le_refl _, by simp, HB.out.1, by have := HB.out.2; rwa [World.size_alloc] at this⟩
theorem all_none (yv : Value) (t b1 b2 : Nat) (h : MemAt ramK own c w rp 0 n m) (h1 : Blk w b1 179 #[.pointer (some ⟨rp, 0, none⟩)]) (h2 : Blk w b2 3 #[.int .i64 (t : Int)]) (ht : t < n) (hz : ∀ i, i < 512 → en m t i = 0) :
    Calls Try.prog 139 #[yv, .pointer (some ⟨b1, 0, none⟩), .pointer (some ⟨b2, 0, none⟩)] w fun e w' => e = .returned (.tuple #[]) ∧ Step (fun _ => False) own w own w' := by
  have HX := Lib.hid (And.intro h (And.intro h1 (And.intro h2 hz)))
  clear h h1 h2 hz
  go_enter Try.func139, Try.ntmps139
  go_wp2
  go_loopw [6] (fun i wr => ∃ (k : Nat), k ≤ 512 ∧ i = .int .u64 (k : Int) ∧ Hid (Step (fun _ => False) own w own wr)) (fun i _ => 512 - (intOf i).toNat)
  case atStart => exact ⟨0, by omega, rfl, Step.refl _ _ _⟩
  case round =>
    obtain ⟨k, hk, rfl, HR⟩ := hrel
    by_cases hlt : k < 512
    · have hlt' : (k : Int) < 512 := by omega
      have HE := Lib.hid (view_entry (HX.out.1.step HR.out (fun h => h)) t k ht hlt)
      rw [HX.out.2.2.2 k hlt] at HE
      have c1 := (HX.out.2.1.upd HR.out.upd (fun h => h)).cell 0
      have c2 := (HX.out.2.2.1.upd HR.out.upd (fun h => h)).cell 0
      simp only [List.getElem?_toArray, List.getElem?_cons_zero] at c1 c2
      go_wp2_with fail
      refine HE.out.mono ?_; rintro e w2 ⟨rfl, hS2⟩
      have H2 := Lib.hid (HR.out.trans hS2)
      clear hS2 HE HR
      go_wp2
      exact ⟨⟨k + 1, by omega, by go_num, H2.out⟩, by simp [intOf]; omega⟩
    · obtain rfl : k = 512 := by omega
      go_wp2
      go_end0
      exact ⟨rfl, HR.out⟩
/-- what a body with a range over a function leaves: it returns -/
def postM (fn : Func) (R : Ending → World → Prop) : Exit → Act → World → Prop
  | .normal, a, w | .ret, a, w => LeavesInM Fence.wide 3 Try.prog fn a.tmps R a.defers .returning w
  | _, _, _ => False
theorem calls_marks {f : FuncId} {fn : Func} {c : Code} {args : Array Value} {w : World} {R : Ending → World → Prop} (hf : Try.prog.funcs[f]? = some fn) (hb : fn.body = some c)
    (h : c.wp Try.prog (postM fn R) { tmps := args ++ Array.replicate (fn.ntmps - args.size) undef, defers := [] } w) : Calls Try.prog f args w R := by
  refine callsIn_wide.1 (callsIn_of_wp_marks (F := Fence.wide) (n := 3) hf hb trivial (wpIn_wide.2 (Code.wp_mono ?_ h)) rfl)
  intro e a w hq
  cases e <;> first | exact hq | exact hq.elim
theorem upd_of_below {w W : World} (h : Below w.heap.size w W) : Upd (fun _ => False) w W := ⟨h.os, h.tape, h.output, h.size, fun i hi _ => h.block i hi⟩
theorem grown_of_upd {w W : World} (h : Upd (fun _ => False) w W) : w.grownBy W none := ⟨h.os, h.tape, h.output, h.size, fun i hi _ => h.block i hi (fun h => h)⟩
/-- the entries' walk, where there are none -/
theorem all_seq (t b1 b2 k : Nat) (h : MemAt ramK own c w rp 0 n m) (h1 : Blk w b1 179 #[.pointer (some ⟨rp, 0, none⟩)]) (h2 : Blk w b2 3 #[.int .i64 (t : Int)]) (ht : t < n) (hz : ∀ i, i < 512 → en m t i = 0) (encs : Empty → Array Value) :
    SeqStopsK Fence.wide k Try.prog 139 #[.pointer (some ⟨b1, 0, none⟩), .pointer (some ⟨b2, 0, none⟩)] encs (fun _ _ => True) (fun xs => xs = []) (fun _ => False) 0 w := by
  intro l J Jx W hW hJ hJx hY h0
  have hU := upd_of_below hW
  have hS : Step (fun _ => False) own w own W := ⟨hU, fun _ _ => rfl⟩
  refine callsIn_wide.2 ((all_none (.func (.yield l) #[] #[]) t b1 b2 (h.step hS (fun h => h)) (h1.upd hU (fun h => h)) (h2.upd hU (fun h => h)) ht hz).mono ?_)
  rintro e W' ⟨rfl, hS2⟩
  exact ⟨⟨_, rfl⟩, Or.inl ⟨[], rfl, hJ [] W W' none h0 (grown_of_upd hS2.upd) (fun r e => by cases e)⟩⟩
set_option maxHeartbeats 2000000 in
theorem pages_none (hM : MemAt ramK own c w rp 0 n m) (hS : SpAt own w sp rp pp vmid ((t0 : Int) :: ts)) (ht0 : t0 < n) (hz : ∀ i, i < 512 → en m t0 i = 0) :
    Calls Try.prog 48 #[.pointer (some ⟨sp, 0, none⟩)] w fun e w' => e = .returned (.slice none 0 0) ∧ Step (fun _ => False) own w own w' := by
  have hB0 := Blk.new w 59 #[.pointer (some ⟨sp, 0, none⟩)]
  have hB1 := Blk.new (w.alloc (.cells #[.pointer (some ⟨sp, 0, none⟩)] 59)) 71 #[.slice none 0 0]
  have hst : Step (fun _ => False) own w own (((w.alloc (.cells #[.pointer (some ⟨sp, 0, none⟩)] 59)).alloc (.cells #[.slice none 0 0] 71))).drew := ((step_alloc own w _).trans (step_alloc own _ _)).drew
  obtain ⟨g, cap, s0, s1, s2, s3, sg, lsp, lg⟩ := (hS.step hst (fun h => h) (fun h => h)).cells
  have HG := Lib.hid (And.intro hst (And.intro (hM.step hst (fun h => h)) (And.intro ((hB0.alloc (.cells #[.slice none 0 0] 71)).drew) hB1.drew)))
  have hc0 := HG.out.2.2.1.cell 0
  have HZ := Lib.hid hz
  clear hM hS hst hB0 hB1 s1 s2 hz
  refine calls_marks Try.func48 rfl ?_
  simp only [Try.ntmps48, List.size_toArray, List.length_cons, List.length_nil, Nat.reduceAdd, Nat.reduceSub, Array.replicate_succ, Array.replicate_zero, List.push_toArray, List.append_toArray, List.nil_append, List.cons_append]
  simp only [World.size_alloc] at HG hc0
  go_wp2_with fail
  generalize hwe : ((w.alloc (.cells #[.pointer (some ⟨sp, 0, none⟩)] 59)).alloc (.cells #[.slice none 0 0] 71)) = wa at *
  have hsz : w.heap.size + 2 = wa.heap.size := by rw [← hwe]; simp
  clear hwe
  generalize w.heap.size = vb at *
  simp only [List.getElem?_toArray, List.getElem?_cons_zero] at hc0
  have hlen1 : (0 : Int) < ((ts.length + 1 : Nat) : Int) := by omega
  refine wpE_region (S := fun (W' : World) => W'.cell? ⟨vb, 0, none⟩ = some (.pointer (some ⟨sp, 0, none⟩)) ∧ W'.cell? ⟨sp, 0, none⟩ = some (.pointer (some ⟨rp, 0, none⟩)) ∧ W'.cell? ⟨sp, 3, none⟩ = some (.slice (some ⟨g, 0, none⟩) (ts.length + 1) cap) ∧ W'.cell? ⟨g, 0, none⟩ = some (.int .i64 (t0 : Int))) (s := 10) (by kernel_rfl) ?_
  have hS : (fun (W' : World) => W'.cell? ⟨vb, 0, none⟩ = some (.pointer (some ⟨sp, 0, none⟩)) ∧ W'.cell? ⟨sp, 0, none⟩ = some (.pointer (some ⟨rp, 0, none⟩)) ∧ W'.cell? ⟨sp, 3, none⟩ = some (.slice (some ⟨g, 0, none⟩) (ts.length + 1) cap) ∧ W'.cell? ⟨g, 0, none⟩ = some (.int .i64 (t0 : Int))) _ := ⟨hc0, s0, s3, sg⟩
  refine wpE_take (i := 0) (oi := { dst := some 10, op := Go.Op.load 59 (Go.Operand.tmp 1), type := 59, pos := "stage.go:220", after := #[], guard := none }) (v := ?_) rfl (by kernel_rfl) (fun _ _ _ h => h) (Or.inl ⟨by rfl, fun W hW => ?_⟩) hS ?_
  rotate_left
  · obtain ⟨hw1, hw2, hw3, hw4⟩ := hW; go_simp; (try go_bits); (try rw [if_pos (by omega)]); (try with_reducible rfl)
  (try simp only [Act.put, List.setIfInBounds_toArray, List.set_cons_succ, List.set_cons_zero])
  refine wpE_take (i := 1) (oi := { dst := some 11, op := Go.Op.nilCheck (Go.Operand.tmp 10), type := 0, pos := "stage.go:220", after := #[{ on := 0, ground := Go.Ground.data }], guard := none }) (v := ?_) rfl (by kernel_rfl) (fun _ _ _ h => h) (Or.inl ⟨by rfl, fun W hW => ?_⟩) hS ?_
  rotate_left
  · obtain ⟨hw1, hw2, hw3, hw4⟩ := hW; go_simp; (try go_bits); (try rw [if_pos (by omega)]); (try with_reducible rfl)
  (try simp only [Act.put, List.setIfInBounds_toArray, List.set_cons_succ, List.set_cons_zero])
  refine wpE_take (i := 2) (oi := { dst := some 12, op := Go.Op.fieldAddr 181 (Go.Operand.tmp 11) 0, type := 0, pos := "stage.go:220", after := #[{ on := 1, ground := Go.Ground.data }], guard := none }) (v := ?_) rfl (by kernel_rfl) (fun _ _ _ h => h) (Or.inl ⟨by rfl, fun W hW => ?_⟩) hS ?_
  rotate_left
  · obtain ⟨hw1, hw2, hw3, hw4⟩ := hW; go_simp; (try go_bits); (try rw [if_pos (by omega)]); (try with_reducible rfl)
  (try simp only [Act.put, List.setIfInBounds_toArray, List.set_cons_succ, List.set_cons_zero])
  refine wpE_take (i := 3) (oi := { dst := some 13, op := Go.Op.load 179 (Go.Operand.tmp 12), type := 179, pos := "stage.go:220", after := #[{ on := 2, ground := Go.Ground.data }], guard := none }) (v := viewV rp) rfl (by kernel_rfl) (fun _ _ _ h => h) (Or.inl ⟨by rfl, fun W hW => ?_⟩) hS ?_
  · obtain ⟨hw1, hw2, hw3, hw4⟩ := hW; go_simp; (try go_bits); (try rw [if_pos (by omega)]); (try with_reducible rfl)
  (try simp only [Act.put, List.setIfInBounds_toArray, List.set_cons_succ, List.set_cons_zero])
  refine wpE_take (i := 4) (oi := { dst := some 14, op := Go.Op.load 59 (Go.Operand.tmp 1), type := 59, pos := "stage.go:220", after := #[], guard := none }) (v := ?_) rfl (by kernel_rfl) (fun _ _ _ h => h) (Or.inl ⟨by rfl, fun W hW => ?_⟩) hS ?_
  rotate_left
  · obtain ⟨hw1, hw2, hw3, hw4⟩ := hW; go_simp; (try go_bits); (try rw [if_pos (by omega)]); (try with_reducible rfl)
  (try simp only [Act.put, List.setIfInBounds_toArray, List.set_cons_succ, List.set_cons_zero])
  refine wpE_take (i := 5) (oi := { dst := some 15, op := Go.Op.nilCheck (Go.Operand.tmp 14), type := 0, pos := "stage.go:220", after := #[{ on := 4, ground := Go.Ground.data }], guard := none }) (v := ?_) rfl (by kernel_rfl) (fun _ _ _ h => h) (Or.inl ⟨by rfl, fun W hW => ?_⟩) hS ?_
  rotate_left
  · obtain ⟨hw1, hw2, hw3, hw4⟩ := hW; go_simp; (try go_bits); (try rw [if_pos (by omega)]); (try with_reducible rfl)
  (try simp only [Act.put, List.setIfInBounds_toArray, List.set_cons_succ, List.set_cons_zero])
  refine wpE_take (i := 6) (oi := { dst := some 16, op := Go.Op.fieldAddr 181 (Go.Operand.tmp 15) 3, type := 0, pos := "stage.go:220", after := #[{ on := 5, ground := Go.Ground.data }], guard := none }) (v := ?_) rfl (by kernel_rfl) (fun _ _ _ h => h) (Or.inl ⟨by rfl, fun W hW => ?_⟩) hS ?_
  rotate_left
  · obtain ⟨hw1, hw2, hw3, hw4⟩ := hW; go_simp; (try go_bits); (try rw [if_pos (by omega)]); (try with_reducible rfl)
  (try simp only [Act.put, List.setIfInBounds_toArray, List.set_cons_succ, List.set_cons_zero])
  refine wpE_take (i := 7) (oi := { dst := some 17, op := Go.Op.load 45 (Go.Operand.tmp 16), type := 45, pos := "stage.go:220", after := #[{ on := 6, ground := Go.Ground.data }], guard := none }) (v := ?_) rfl (by kernel_rfl) (fun _ _ _ h => h) (Or.inl ⟨by rfl, fun W hW => ?_⟩) hS ?_
  rotate_left
  · obtain ⟨hw1, hw2, hw3, hw4⟩ := hW; go_simp; (try go_bits); (try rw [if_pos (by omega)]); (try with_reducible rfl)
  (try simp only [Act.put, List.setIfInBounds_toArray, List.set_cons_succ, List.set_cons_zero])
  refine wpE_take (i := 8) (oi := { dst := some 18, op := Go.Op.indexAddr 45 (Go.Operand.tmp 17) (Go.Operand.const (Go.Value.int Go.IntKind.i64 0)), type := 0, pos := "stage.go:220", after := #[{ on := 7, ground := Go.Ground.data }], guard := none }) (v := ?_) rfl (by kernel_rfl) (fun _ _ _ h => h) (Or.inl ⟨by rfl, fun W hW => ?_⟩) hS ?_
  rotate_left
  · obtain ⟨hw1, hw2, hw3, hw4⟩ := hW; go_simp; (try go_bits); (try rw [if_pos (by omega)]); (try with_reducible rfl)
  (try simp only [Act.put, List.setIfInBounds_toArray, List.set_cons_succ, List.set_cons_zero])
  refine wpE_take (i := 9) (oi := { dst := some 19, op := Go.Op.load 3 (Go.Operand.tmp 18), type := 3, pos := "stage.go:220", after := #[{ on := 8, ground := Go.Ground.data }], guard := none }) (v := ?_) rfl (by kernel_rfl) (fun _ _ _ h => h) (Or.inl ⟨by rfl, fun W hW => ?_⟩) hS ?_
  rotate_left
  · obtain ⟨hw1, hw2, hw3, hw4⟩ := hW; go_simp; (try go_bits); (try rw [if_pos (by omega)]); (try with_reducible rfl)
  (try simp only [Act.put, List.setIfInBounds_toArray, List.set_cons_succ, List.set_cons_zero])
  refine wpE_last (oi := { dst := some 20, op := Go.Op.call { callee := Go.Callee.value (Go.Operand.func 101), args := #[Go.Operand.tmp 13, Go.Operand.tmp 19], argTypes := #[179, 3] }, type := 187, pos := "stage.go:220", after := #[{ on := 3, ground := Go.Ground.data }, { on := 9, ground := Go.Ground.data }], guard := none }) rfl (by kernel_rfl) (by kernel_rfl) (by rfl) (fun K hK => ?_)
  go_simp
  refine (view_all rp t0 wa.drew).mono ?_; rintro e w2 ⟨b1, b2, rfl, hU2, hl1, hl2, hBa, hBb⟩
  have hS2 : Step (fun _ => False) own wa.drew own w2 := ⟨hU2, fun _ _ => rfl⟩
  have H2 := Lib.hid (And.intro (HG.out.1.trans hS2) (And.intro (HG.out.2.1.step hS2 (fun h => h)) (And.intro (HG.out.2.2.2.upd hU2 (fun h => h)) (And.intro hBa hBb))))
  clear hU2 hS2 hBa hBb HG
  refine hK _ _ ?_; clear hK K
  clear hS s0 s3 sg hc0 hlen1 lsp lg
  go_wp2_with fail
  obtain ⟨hSt, hM2, hBl, hBa, hBb⟩ := H2.out
  have hlt := hBl.lt
  have hsw := hSt.upd.size
  have HST := Lib.hid hSt
  refine (wpIn_wide (n := 3)).1 (wpIn_rangeFunc_ownF (α := Empty) rfl (by omega) (gf := 139) (lb := #[.pointer (some ⟨b1, 0, none⟩), .pointer (some ⟨b2, 0, none⟩)]) rfl trivial (enters_of Try.func139 (by kernel_rfl) rfl)
    (all_seq t0 b1 b2 2 hM2 hBa hBb ht0 HZ.out (fun x => nomatch x)) (fun _ _ => trivial) (fun _ _ _ _ _ _ _ _ => trivial) (Below.refl _ _) (fun x => nomatch x)
    (fun _ W => Upd (fun _ => False) w W ∧ Blk W (vb + 1) 71 #[.slice none 0 0]) (fun _ _ _ => False) ?_ (fun _ _ _ _ _ hs _ _ => hs.elim) ⟨hSt.upd, hBl⟩ (fun x => nomatch x) (fun _ x => nomatch x) (fun _ _ x => nomatch x) ?_ (fun _ _ _ _ _ _ h => h.elim))
  · rintro s A B row ⟨h1, h2⟩ hg hr
    exact ⟨h1.grown hg (fun k e => Or.inr (by have := (hr k e).1; omega)), h2.grown hg (fun e => by have := (hr _ e.symm).1; omega)⟩
  · rintro D xs W hD _ ⟨hI1, hI2⟩ hK
    have c1 := hI2.cell 0
    simp only [List.getElem?_toArray, List.getElem?_cons_zero] at c1
    have HI := Lib.hid (And.intro hI1 hI2)
    clear hI1 hI2 hBl hBa hBb hM2 hSt H2
    go_wp2
    refine ⟨by simp, .inl ⟨_, _, rfl, run_takeDeferred hK, ?_⟩⟩
    exact ⟨_, results_tmp rfl _ _ _, rfl, HI.out.1.grown (grownBy_putObj' W D _) (fun k e => by cases e; exact Or.inr (by omega)), fun _ _ => rfl⟩
end
end Go.Proofs.Ytpodeclkgcgpgaa
