import Derived.Test.YtonhlgfgbdiapaaGreatIo5
/- The IOMMU: New. -/
namespace Go.Proofs.YtonhlgfgbdiapaaGreat
set_option linter.unusedVariables false
set_option linter.unusedSimpArgs false
open Go.RowKit
set_option maxRecDepth 100000

theorem wpList_build2 {P : Program} {ops : Array Oper} {Q : Exit → Act → World → Prop} {a : Act} {w w' : World} {rest : List Oper} {o : Oper} {v : Value} (hg : o.guard = none) (t : TypeId) (i j : Nat) (x y : Operand)
    (hop : o.op = .build t #[(i, x), (j, y)]) (u u' : Value) (hu : a.eval x = u) (hu' : a.eval y = u') (hrun : (Instr.build t #[(i, u), (j, u')]).run P w = .ok v w') (h : wpList P ops Q rest (a.put o.dst v) w') : wpList P ops Q (o :: rest) a w :=
  wpList_run hg (by simp [execOp, hop, hu, hu', hrun]) h
theorem wpList_boxC {P : Program} {ops : Array Oper} {Q : Exit → Act → World → Prop} {a : Act} {w : World} {rest : List Oper} {o : Oper} (hg : o.guard = none) (t : TypeId) (x : Operand) (ho : o.op = .box t x) (cs : Array Value) (hx : (a.eval x).cells = cs)
    (h : wpList P ops Q rest (a.put o.dst (.pointer (some ⟨w.heap.size, 0, none⟩))) (w.alloc (.cells cs t))) : wpList P ops Q (o :: rest) a w := by
  subst hx
  refine wpList_run hg ?_ h
  unfold execOp
  simp only [ho, Sem.run_bind, Instr.box, newVar, newRow, run_newObj_alloc, Sem.run_pure, Result.andThen_ok]
def usNew (a b : Option Addr) : Array Value := ((List.range 527).map (usC a b us0)).toArray
theorem us_build (a b : Option Addr) (w : World) : (Instr.build 101 #[(0, .pointer a), (1, .agg #[.pointer b])]).run Tryz.prog w = .ok (.agg (usNew a b)) w := by kernel_rfl
theorem usIn_new (a b : Option Addr) : UsIn (usNew a b) a b us0 := by
  refine ⟨by simp [usNew], fun j hj => ?_⟩
  unfold usNew
  rw [List.getElem?_toArray, List.getElem?_map, List.getElem?_range hj]
  rfl
section
variable {w : World}
theorem io_New (own : Nat → Nat) (c ct cd : Nat) (rp r : Nat) (hr : 1 ≤ r ∧ r ≤ 64) (w : World) (hct : c ≠ ct) :
    Calls Tryz.prog 27 #[.pointer (some ⟨rp, 0, none⟩), .int .i64 (r : Int)] w fun e w' => ∃ p tp own', e = .returned (.tuple #[.pointer (some ⟨p, 0, none⟩), .int .i64 0]) ∧ Step (fun _ => False) own w own' w' ∧ UsAt own' c w' p rp tp us0 ∧ TlbAt own' ct cd w' tp r [] := by
  have hT := tlb_New own ct cd w r hr
  have HT := Lib.hid hT
  clear hT
  go_enter Tryz.func27, Tryz.ntmps27
  go_wp2_with fail
  ((with_reducible refine HT.out.mono ?_); rintro e w1 ⟨rfl, hS1, hT1⟩)
  have hst : Step (fun _ => False) (ext own w ct) w1 (ext (ext own w ct) w1 c) (w1.alloc (.cells (usNew (some ⟨rp, 0, none⟩) (some ⟨w.heap.size, 0, none⟩)) 101)) := ⟨(Upd.refl _ _).alloc _, fun b hb => ext_old _ _ _ hb⟩
  have HR := Lib.hid (And.intro (hS1.trans hst) (And.intro (show UsAt (ext (ext own w ct) w1 c) c _ w1.heap.size rp w.heap.size us0 from ⟨_, Blk.new w1 _ _, ext_new _ _ _ (Nat.le_refl _), usIn_new _ _⟩) (hT1.step hst (fun h => h) (fun h => h))))
  clear hS1 hT1 hst HT
  go_wp2_with (first | ((with_reducible show wpList _ _ _ ((⟨some 19, _, _, _, _, _⟩ : Oper) :: _) _ _); refine wpList_build2 rfl _ _ _ _ _ rfl _ _ rfl rfl (us_build _ _ _) ?_) | ((with_reducible show wpList _ _ _ ((⟨some 20, _, _, _, _, _⟩ : Oper) :: _) _ _); refine wpList_boxC rfl _ _ rfl (usNew _ _) rfl ?_))
  go_ret2
  exact ⟨_, _, _, rfl, HR.out⟩
end
end Go.Proofs.YtonhlgfgbdiapaaGreat
