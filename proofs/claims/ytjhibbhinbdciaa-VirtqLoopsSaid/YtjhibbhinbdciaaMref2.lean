import Derived.Test.YtjhibbhinbdciaaMref
import Derived.Lib.SliceRun
/- The document's memory (citadelref03.M): get, put, right. -/
namespace Go.Proofs.Ytjhibbhinbdciaa
set_option linter.unusedVariables false
open Go.RowKit
set_option maxRecDepth 100000

theorem info_u8 : (Try.prog.info? 5).map (fun i => (i.zero, i.size, i.bytes)) = some (some (.int .u8 0), 1, 1) := by kernel_rfl
theorem bytes_nil (w : World) (a : Option Addr) (n c : Nat) : (binOp .eql 56 (Value.slice a n c) (Value.slice none 0 0)).run Try.prog w = .ok (.bool a.isNone) w := Lib.run_eql_slice_nil w _ _ a n c 0 0 Try.underlying56
theorem u8_make (w : World) : (Instr.makeSlice 56 (.int .i64 4096) (.int .i64 4096)).run Try.prog w = .ok (.slice (some ⟨w.heap.size, 0, none⟩) 4096 4096) (w.alloc (.cells zeros 5)) := by
  obtain ⟨ie, hi, hz, hs, hb⟩ := info_parts info_u8
  have := run_make1 (P := Try.prog) w 56 5 ie _ Try.underlying56 hi hz hs rfl .i64 .i64 4096 (by rw [hb]; omega) (by omega)
  have e : (Array.replicate 4096 (Value.int .u8 0)) = zeros := by unfold zeros; rw [List.toArray_replicate]
  rw [e] at this
  exact this
theorem mref_get {own : Nat → Nat} {c p q base : Nat} {fs : List (Option Nat)} {m : Nat → Int} {w : World} (h : MemIn refK own c w p q base fs m) (off : Nat) (ho : off < fs.length * 4096) :
    Calls Try.prog 58 #[.pointer (some ⟨p, 0, none⟩), .int .u64 ((base + off : Nat) : Int)] w fun e w' => e = .returned (.int .u8 (m off)) ∧ w = w' := by
  have hk : off / 4096 < fs.length := Nat.div_lt_of_lt_mul (by omega)
  have hj : off % 4096 < 4096 := Nat.mod_lt _ (by omega)
  have hoff : off / 4096 * 4096 + off % 4096 = off := by omega
  have hw : IntKind.u64.wrap (((base + off : Nat) : Int) - (base : Int)) = (off : Int) := by
    have := h.hb; have := h.hn
    rw [IntWalk.u64_in _ (by omega)]; omega
  have h0 : w.cell? ⟨p, 0, none⟩ = some (.int .u64 (base : Int)) := h.bp.cell 0
  have h1 : w.cell? ⟨p, 2, none⟩ = some (.slice (some ⟨q, 0, none⟩) fs.length fs.length) := h.bp.cell 2
  have hq := h.cellq (off / 4096)
  simp only [List.getElem?_eq_getElem hk, Option.map_some] at hq
  have hlen := h.hn
  rcases hf : fs[off / 4096] with _ | b
  · have hm := h.gone (off / 4096) (by rw [List.getElem?_eq_getElem hk, hf]) _ hj
    rw [hoff] at hm
    rw [hf] at hq
    simp only [refK, slV] at hq
    rw [hm]
    clear h hm hf
    have qn := bytes_nil
    go_enter Try.func58, Try.ntmps58
    go_wp2
    go_ret
    exact ⟨rfl, rfl⟩
  · obtain ⟨ho, cs, hb, hs, hc⟩ := h.there (off / 4096) b (by rw [List.getElem?_eq_getElem hk, hf])
    have hx := (hb.cell _).trans (hc _ hj)
    rw [hoff] at hx
    rw [hf] at hq
    simp only [refK, slV] at hq
    clear h hf hc hb
    have qn := bytes_nil
    go_enter Try.func58, Try.ntmps58
    go_wp2
    go_ret
    exact ⟨rfl, rfl⟩
theorem mref_right (size : Int) (w : World) : Calls Try.prog 54 #[.int .i64 size] w fun e w' => e = .returned (.bool (okS size)) ∧ w = w' := by
  go_enter Try.func54, Try.ntmps54
  go_wp2
  all_goals go_ret
  all_goals (refine ⟨?_, rfl⟩; simp_all [okS])
theorem mref_put_in {own : Nat → Nat} {c p q base : Nat} {fs : List (Option Nat)} {m : Nat → Int} {w : World} (h : MemIn refK own c w p q base fs m) (off : Nat) (ho : off < fs.length * 4096) (v : Int) (hv : 0 ≤ v ∧ v < 256) :
    Calls Try.prog 55 #[.pointer (some ⟨p, 0, none⟩), .int .u64 ((base + off : Nat) : Int), .int .u8 v] w fun e w' => e = .returned (.tuple #[]) ∧
      ∃ own' fs', Step (· = c) own w own' w' ∧ MemIn refK own' c w' p q base fs' (setB m off v) ∧ fs'.length = fs.length := by
  have hk : off / 4096 < fs.length := Nat.div_lt_of_lt_mul (by omega)
  have hj : off % 4096 < 4096 := Nat.mod_lt _ (by omega)
  have hoff : off / 4096 * 4096 + off % 4096 = off := by omega
  have hw : IntKind.u64.wrap (((base + off : Nat) : Int) - (base : Int)) = (off : Int) := by
    have := h.hb; have := h.hn
    rw [IntWalk.u64_in _ (by omega)]; omega
  have h0 : w.cell? ⟨p, 0, none⟩ = some (.int .u64 (base : Int)) := h.bp.cell 0
  have h1 : w.cell? ⟨p, 2, none⟩ = some (.slice (some ⟨q, 0, none⟩) fs.length fs.length) := h.bp.cell 2
  have hq := h.cellq (off / 4096)
  simp only [List.getElem?_eq_getElem hk, Option.map_some] at hq
  have hlen := h.hn
  have HR := Lib.hid h
  rcases hf : fs[off / 4096] with _ | b
  · rw [hf] at hq
    simp only [refK, slV] at hq
    have hzq := h.bq.frozen (off / 4096)
    have hlt := h.bq.lt
    have hlp := h.bp.lt
    have hnq : q ≠ w.heap.size := by omega
    have hnp : p ≠ w.heap.size := by omega
    have hpq : p ≠ q := h.bp.ne_ h.bq refK.pq
    have hza := zeros_at hj
    have hff := Lib.hid hf
    clear h hf
    have qn := bytes_nil
    go_enter Try.func55, Try.ntmps55
    go_wp2_with fail
    have hA1 : (w.drew.alloc (.cells zeros 5)).cell? ⟨p, 2, none⟩ = some (.slice (some ⟨q, 0, none⟩) fs.length fs.length) := by go_simp
    refine wpE_region (S := fun (W' : World) => W'.cell? ⟨p, 2, none⟩ = some (.slice (some ⟨q, 0, none⟩) fs.length fs.length)) (s := 7) (by kernel_rfl) ?_
    have hS : (fun (W' : World) => W'.cell? ⟨p, 2, none⟩ = some (.slice (some ⟨q, 0, none⟩) fs.length fs.length)) _ := h1
    refine wpE_take (i := 0) (oi := { dst := some 24, op := Go.Op.move (Go.Operand.tmp 0), type := 24, pos := "ref.go:46", after := #[], guard := none }) (v := ?_) rfl (by kernel_rfl) (fun _ _ _ h => h) (Or.inl ⟨by rfl, fun W hW => ?_⟩) hS ?_
    rotate_left
    · replace hW : W.cell? ⟨p, 2, none⟩ = some (.slice (some ⟨q, 0, none⟩) fs.length fs.length) := hW; go_simp; (try go_bits); (try rw [if_pos (by omega)]); (try with_reducible rfl)
    (try simp only [Act.put, List.setIfInBounds_toArray, List.set_cons_succ, List.set_cons_zero])
    refine wpE_take (i := 1) (oi := { dst := some 25, op := Go.Op.nilCheck (Go.Operand.tmp 24), type := 0, pos := "ref.go:46", after := #[{ on := 0, ground := Go.Ground.data }], guard := none }) (v := ?_) rfl (by kernel_rfl) (fun _ _ _ h => h) (Or.inl ⟨by rfl, fun W hW => ?_⟩) hS ?_
    rotate_left
    · replace hW : W.cell? ⟨p, 2, none⟩ = some (.slice (some ⟨q, 0, none⟩) fs.length fs.length) := hW; go_simp; (try go_bits); (try rw [if_pos (by omega)]); (try with_reducible rfl)
    (try simp only [Act.put, List.setIfInBounds_toArray, List.set_cons_succ, List.set_cons_zero])
    refine wpE_take (i := 2) (oi := { dst := some 26, op := Go.Op.fieldAddr 95 (Go.Operand.tmp 25) 2, type := 0, pos := "ref.go:46", after := #[{ on := 1, ground := Go.Ground.data }], guard := none }) (v := ?_) rfl (by kernel_rfl) (fun _ _ _ h => h) (Or.inl ⟨by rfl, fun W hW => ?_⟩) hS ?_
    rotate_left
    · replace hW : W.cell? ⟨p, 2, none⟩ = some (.slice (some ⟨q, 0, none⟩) fs.length fs.length) := hW; go_simp; (try go_bits); (try rw [if_pos (by omega)]); (try with_reducible rfl)
    (try simp only [Act.put, List.setIfInBounds_toArray, List.set_cons_succ, List.set_cons_zero])
    refine wpE_take (i := 3) (oi := { dst := some 27, op := Go.Op.load 93 (Go.Operand.tmp 26), type := 93, pos := "ref.go:46", after := #[{ on := 2, ground := Go.Ground.data }], guard := none }) (v := ?_) rfl (by kernel_rfl) (fun _ _ _ h => h) (Or.inl ⟨by rfl, fun W hW => ?_⟩) hS ?_
    rotate_left
    · replace hW : W.cell? ⟨p, 2, none⟩ = some (.slice (some ⟨q, 0, none⟩) fs.length fs.length) := hW; go_simp; (try go_bits); (try rw [if_pos (by omega)]); (try with_reducible rfl)
    (try simp only [Act.put, List.setIfInBounds_toArray, List.set_cons_succ, List.set_cons_zero])
    refine wpE_take (i := 4) (oi := { dst := some 28, op := Go.Op.move (Go.Operand.tmp 7), type := 29, pos := "ref.go:46", after := #[], guard := none }) (v := ?_) rfl (by kernel_rfl) (fun _ _ _ h => h) (Or.inl ⟨by rfl, fun W hW => ?_⟩) hS ?_
    rotate_left
    · replace hW : W.cell? ⟨p, 2, none⟩ = some (.slice (some ⟨q, 0, none⟩) fs.length fs.length) := hW; go_simp; (try go_bits); (try rw [if_pos (by omega)]); (try with_reducible rfl)
    (try simp only [Act.put, List.setIfInBounds_toArray, List.set_cons_succ, List.set_cons_zero])
    refine wpE_only (i := 5) (oi := { dst := some 29, op := Go.Op.makeSlice 56 (Go.Operand.const (Go.Value.int Go.IntKind.i64 4096)) (Go.Operand.const (Go.Value.int Go.IntKind.i64 4096)), type := 56, pos := "ref.go:46", after := #[], guard := none }) rfl (by kernel_rfl) (by rfl) (fun K hK => ?_)
    refine wp_run (exec_make rfl _ _ rfl rfl (u8_make _)) ?_
    have hS := hA1
    refine hK _ _ hS ?_; clear hK K
    (try simp only [Act.put, List.setIfInBounds_toArray, List.set_cons_succ, List.set_cons_zero])
    refine wpE_take (i := 6) (oi := { dst := some 30, op := Go.Op.indexAddr 93 (Go.Operand.tmp 27) (Go.Operand.tmp 28), type := 0, pos := "ref.go:46", after := #[{ on := 3, ground := Go.Ground.data }, { on := 4, ground := Go.Ground.data }, { on := 0, ground := Go.Ground.phase }, { on := 1, ground := Go.Ground.phase }, { on := 2, ground := Go.Ground.phase }, { on := 3, ground := Go.Ground.phase }, { on := 4, ground := Go.Ground.phase }, { on := 5, ground := Go.Ground.phase }], guard := none }) (v := ?_) rfl (by kernel_rfl) (fun _ _ _ h => h) (Or.inl ⟨by rfl, fun W hW => ?_⟩) hS ?_
    rotate_left
    · replace hW : W.cell? ⟨p, 2, none⟩ = some (.slice (some ⟨q, 0, none⟩) fs.length fs.length) := hW; go_simp; (try go_bits); (try rw [if_pos (by omega)]); (try with_reducible rfl)
    (try simp only [Act.put, List.setIfInBounds_toArray, List.set_cons_succ, List.set_cons_zero])
    refine wpE_last (oi := { dst := none, op := Go.Op.store 56 (Go.Operand.tmp 30) (Go.Operand.tmp 29), type := 0, pos := "ref.go:46", after := #[{ on := 6, ground := Go.Ground.data }, { on := 5, ground := Go.Ground.data }, { on := 0, ground := Go.Ground.phase }, { on := 1, ground := Go.Ground.phase }, { on := 2, ground := Go.Ground.phase }, { on := 3, ground := Go.Ground.phase }, { on := 4, ground := Go.Ground.phase }, { on := 5, ground := Go.Ground.phase }], guard := none }) rfl (by kernel_rfl) (by kernel_rfl) (by rfl) (fun K hK => ?_)
    go_simp; (try go_bits); refine hK _ _ ?_; clear hK K
    go_wp2
    go_end0
    have := HR.out.put_new (off := off) (by rw [List.getElem?_eq_getElem hk, hff.out]) hv
    refine ⟨rfl, ext own w c, this.1.drew, fs.set (off / 4096) (some w.heap.size), ?_, by simp⟩
    exact this.2.step (C := fun _ => False) ((Step.refl (fun _ => False) (ext own w c) _).drew) (fun h => h)
  · obtain ⟨ho, cs, hb, hs, hc⟩ := h.there (off / 4096) b (by rw [List.getElem?_eq_getElem hk, hf])
    have hx := (hb.cell _).trans (hc _ hj)
    have hz := hb.frozen (off % 4096)
    have hlt := hb.lt
    rw [hoff] at hx
    rw [hf] at hq
    simp only [refK, slV] at hq
    have HB := Lib.hid (And.intro ho (And.intro hb (And.intro hs hc)))
    have hff := Lib.hid hf
    clear h hf hc hb ho hs
    have qn := bytes_nil
    go_enter Try.func55, Try.ntmps55
    go_wp2
    go_end0
    have := HR.out.put_old (off := off) (by rw [List.getElem?_eq_getElem hk, hff.out]) hv
    exact ⟨rfl, _, _, this.1, this.2, rfl⟩
end Go.Proofs.Ytjhibbhinbdciaa
