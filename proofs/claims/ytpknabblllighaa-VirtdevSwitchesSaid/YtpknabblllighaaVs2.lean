import Derived.Test.YtpknabblllighaaVs1
import Derived.Test.YtpknabblllighaaUp1
import Derived.Test.YtpknabblllighaaTwo
/- A switch: NewSwitch, Learned. -/
namespace Go.Proofs.Ytpknabblllighaa
set_option linter.unusedVariables false
set_option linter.unusedSimpArgs false
open Go.RowKit Go.Maps
set_option maxRecDepth 100000
section
variable {P : Program} {a : Act} {w w' : World} {o : Oper} {v : Value}
theorem exec_lookB {α : Type} [DecidableEq α] {k t e : TypeId} {enc : α → Value} {b : Nat} {kv : List (α × Value)} (m x : Operand) (hop : o.op = .lookup t m x true)
    (h : MapB P k enc w b kv) (K : Keyed P k) (hinj : ∀ x y, enc x = enc y → x = y) (ht : P.underlying t = some (.map k e)) {z : Value} (hz : (zeroValue e).run P w = .ok z w) (hm : a.eval m = .map (some b)) {q : α} {kl : Lit} (hx : a.eval x = enc q) (hkey : keyOf P k (enc q) = some kl)
    (V : Value) (B : Bool) (hV : (kvGet kv q).getD z = V) (hB : (kvGet kv q).isSome = B) : (execOp a.eval o).run P w = .ok (.value (.tuple #[V, .bool B])) w := by
  have hrun := h.look K hinj ht hz hkey true
  rw [if_pos rfl, hV, hB] at hrun
  simp [execOp, hop, hm, hx, hrun]
theorem wp_storeB {α : Type} [DecidableEq α] {K' : Act → World → Prop} {Q : Exit → Act → World → Prop} {k t e : TypeId} {enc : α → Value} {b : Nat} {kv : List (α × Value)} (m x u : Operand) (hop : o.op = Op.mapUpdate t m x u)
    (h : MapB P k enc w b kv) (K : Keyed P k) (hinj : ∀ x y, enc x = enc y → x = y) (ht : P.underlying t = some (.map k e)) (hm : a.eval m = .map (some b)) {q : α} {kl : Lit} (hx : a.eval x = enc q) (hkey : keyOf P k (enc q) = some kl) (val : Value) (hv : a.eval u = val)
    (hK : ∀ w', MapB P k enc w' b (kvPut kv q val) → Upd (· = b) w w' → K' (a.put o.dst undef) w') : o.wp P a w K' Q := by
  obtain ⟨w', hrun, r1, r2⟩ := h.store K hinj ht hkey val
  unfold Oper.wp
  simp [execOp, hop, hm, hx, hv, hrun, Result.andThen]
  exact hK w' r1 r2
theorem exec_arrayAt (arr e : TypeId) (n : Nat) (x : Operand) (hop : o.op = .sliceToArrayPointer arr x) (A : Option Addr) (len cap : Nat) (hx : a.eval x = .slice A len cap) (h : P.underlying arr = some (.array n e)) (hn : n ≤ len) :
    (execOp a.eval o).run P w = .ok (.value (.pointer A)) w := by
  have := run_arrayAt (P := P) w arr e n A len cap h hn
  simp [execOp, hop, hx, this]
end
/-- a switch: its ports, its map -/
def SwAt (own : Nat → Nat) (c : Nat) (w : World) (p ports : Nat) (s : Sw) : Prop :=
  ∃ mb kv, Blk w p 45 #[.int .i64 (ports : Int), .map (some mb)] ∧ own p = c ∧ own mb = c ∧ MapB Try.prog 53 encC w mb kv ∧ KnAt s kv
theorem SwAt.step {C : Nat → Prop} {own own' : Nat → Nat} {c : Nat} {w w' : World} {p ports : Nat} {s : Sw} (h : SwAt own c w p ports s) (hS : Step C own w own' w') (hc : ¬ C c) : SwAt own' c w' p ports s := by
  obtain ⟨mb, kv, hb, ho, hom, hm, hk⟩ := h
  obtain ⟨h1, h2⟩ := hS.blk hb ho hc
  obtain ⟨h3, h4⟩ := hm.step hom hS hc
  exact ⟨mb, kv, h1, h2, h4, h3, hk⟩
theorem NewSwitch_no (own : Nat → Nat) (ports : Int) (h0 : -9223372036854775808 ≤ ports) (h1 : ports ≤ 9223372036854775807) (hp : ¬ (1 ≤ ports ∧ ports ≤ 8)) (w : World) :
    Calls Try.prog 5 #[.int .i64 ports] w fun e w' => e = .returned (.tuple #[.pointer none, .int .i64 1]) ∧ w' = w := by
  go_enter Try.func5, Try.ntmps5
  have h : ports < 1 ∨ 8 < ports := by omega
  clear hp
  rcases h with h | h
  · go_wp2
    go_ret2
    exact ⟨rfl, rfl⟩
  · have h3 : ¬ ports < 1 := by omega
    go_wp2
    go_ret2
    exact ⟨rfl, rfl⟩
theorem NewSwitch_yes (own : Nat → Nat) (c : Nat) (ports : Nat) (hp : 1 ≤ ports ∧ ports ≤ 8) (w : World) :
    Calls Try.prog 5 #[.int .i64 (ports : Int)] w fun e w' => ∃ p, e = .returned (.tuple #[.pointer (some ⟨p, 0, none⟩), .int .i64 0]) ∧ ∃ own', Step (fun _ => False) own w own' w' ∧ SwAt own' c w' p ports sw0 := by
  have h1 : ¬ ((ports : Int) < 1) := by omega
  have h2 : ¬ (8 < (ports : Int)) := by omega
  have hmm := @run_makeMap Try.prog
  have hM := MapB.made w Try.prog 53 encC
  have hS1 : Step (fun _ => False) own w (ext own w c) (w.alloc (.map #[] 0)) := ⟨(Upd.refl _ _).alloc _, fun b hb => ext_old _ _ _ hb⟩
  have hS2 : Step (fun _ => False) (ext own w c) (w.alloc (.map #[] 0)) (ext (ext own w c) (w.alloc (.map #[] 0)) c) ((w.alloc (.map #[] 0)).alloc (.cells #[.int .i64 (ports : Int), .map (some w.heap.size)] 45)) := ⟨(Upd.refl _ _).alloc _, fun b hb => ext_old _ _ _ hb⟩
  obtain ⟨hm2, hm3⟩ := hM.step (d := c) (ext_new _ _ _ (Nat.le_refl _)) hS2 (fun h => h)
  have H := Lib.hid (And.intro (hS1.trans hS2) (show SwAt _ c _ _ ports sw0 from ⟨_, [], Blk.new _ _ _, ext_new _ _ _ (Nat.le_refl _), hm3, hm2, KnAt.init⟩))
  clear hM hS1 hS2 hm2 hm3
  go_enter Try.func5, Try.ntmps5
  go_wp2
  go_ret2
  obtain ⟨h5, h6⟩ := H.out
  rw [World.size_alloc] at h6
  exact ⟨_, rfl, _, h5, h6⟩
theorem sw_Learned {own : Nat → Nat} {c : Nat} {w : World} {p ports : Nat} {s : Sw} (h : SwAt own c w p ports s) :
    Calls Try.prog 12 #[.pointer (some ⟨p, 0, none⟩)] w fun e w' => e = .returned (.int .i64 (s.n : Int)) ∧ w' = w := by
  obtain ⟨mb, kv, hb, ho, hom, hm, hk⟩ := h
  have c1 : w.cell? ⟨p, 1, none⟩ = some (.map (some mb)) := hb.cell 1
  have HM := Lib.hid hm
  have HK := Lib.hid hk.len
  rw [← HK.out]
  clear hb ho hom hm hk HK
  go_enter Try.func12, Try.ntmps12
  go_wp2_with ((with_reducible show wpList _ _ _ ((⟨some 7, _, _, _, _, _⟩ : Oper) :: _) _ _); refine wpList_lenB rfl _ _ rfl HM.out Try.underlying43 rfl ?_)
  go_ret
  exact ⟨rfl, rfl⟩
end Go.Proofs.Ytpknabblllighaa
