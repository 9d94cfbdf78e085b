import Derived.Test.YtonhlgfgbdiapaaGreatQmc
import Derived.Test.YtonhlgfgbdiapaaGreatIoN
import Derived.Test.YtonhlgfgbdiapaaGreatLaw4
import Derived.Test.YtonhlgfgbdiapaaGreatPlace
import Derived.Test.YtonhlgfgbdiapaaGreatTref
import Derived.Laws.StructEq
import Derived.Test.YtonhlgfgbdiapaaGreatMref5
/- IommuPlays: any call of a script; a refused room. -/
namespace Go.Proofs.YtonhlgfgbdiapaaGreat
set_option linter.unusedVariables false
set_option linter.unusedSimpArgs false
open Go.RowKit
set_option maxRecDepth 100000

section
variable {own : Nat → Nat} {w : World} {p q rp tp p2 t2 r : Nat} {s : Us} {m : Nat → Int} {l : List Tr} {ms : List To4} {xk xd xs xg xq : Int} {xa xv : Nat} {xw : Bool}
theorem do_any (hA : PA own w p rp tp r s m l) (hD : PD own w q p2 t2 r s m l ms) (hI : PI s l ms) (hms : ms.length < 4398046511103) (hbk : i64B xk) (hbs : i64B xs) (hba : xa < 18446744073709551616) (hbv : xv < 18446744073709551616) :
    Calls Tryz.prog 53 #[.agg #[.pointer (some ⟨p, 0, none⟩), .pointer (some ⟨q, 0, none⟩), .pointer (some ⟨rp, 0, none⟩), .pointer (some ⟨p2, 0, none⟩)], .agg #[.int .i64 xk, .int .i64 xd, .int .i64 xs, .int .u64 (xa : Int), .int .u64 (xv : Int), .bool xw, .int .i64 xg, .int .i64 xq]] w fun e w' => e = .returned (.bool true) ∧ ∃ own' s' m' l' ms', Step (fun x => x ≠ 0 ∧ x < 50) own w own' w' ∧ PA own' w' p rp tp r s' m' l' ∧ PD own' w' q p2 t2 r s' m' l' ms' ∧ PI s' l' ms' ∧ ms'.length ≤ ms.length + 1 := by
  rcases (show xk % 11 = 0 ∨ xk % 11 = 1 ∨ xk % 11 = 2 ∨ xk % 11 = 3 ∨ xk % 11 = 4 ∨ xk % 11 = 5 ∨ xk % 11 = 6 ∨ xk % 11 = 7 ∨ xk % 11 = 8 ∨ xk % 11 = 9 ∨ xk % 11 = 10 by omega) with h | h | h | h | h | h | h | h | h | h | h
  · exact do_0 hA hD hI hms hbk hbs hba hbv h
  · exact do_1 hA hD hI hms hbk hbs hba hbv h
  · exact do_2 hA hD hI hms hbk hbs hba hbv h
  · exact do_3 hA hD hI hms hbk hbs hba hbv h
  · exact do_4 hA hD hI hms hbk hbs hba hbv h
  · exact do_5 hA hD hI hms hbk hbs hba hbv h
  · exact do_6 hA hD hI hms hbk hbs hba hbv h
  · exact do_7 hA hD hI hms hbk hbs hba hbv h
  · exact do_8 hA hD hI hms hbk hbs hba hbv h
  · exact do_9 hA hD hI hms hbk hbs hba hbv h
  · exact do_10 hA hD hI hms hbk hbs hba hbv h
end
end Go.Proofs.YtonhlgfgbdiapaaGreat

/- An engine behind an IOMMU: its way; the document's. -/
namespace Go.Proofs.YtonhlgfgbdiapaaGreat
set_option linter.unusedVariables false
set_option linter.unusedSimpArgs false
open Go.RowKit
set_option maxRecDepth 100000
def wayT (p : Nat) (dev : Int) : Value := .iface 105 (.agg #[.pointer (some ⟨p, 0, none⟩), .int .i64 dev])
section
theorem thr_m1 (p : Nat) (dev : Int) (w : World) : (method 334 105 (.agg #[.pointer (some ⟨p, 0, none⟩), .int .i64 dev]) "citadel/engine.access").run Tryz.prog w = .ok (168, .agg #[.pointer (some ⟨p, 0, none⟩), .int .i64 dev]) w := by kernel_rfl
theorem thr_m2 (p : Nat) (dev : Int) (w : World) : (method 334 105 (.agg #[.pointer (some ⟨p, 0, none⟩), .int .i64 dev]) "citadel/engine.message").run Tryz.prog w = .ok (169, .agg #[.pointer (some ⟨p, 0, none⟩), .int .i64 dev]) w := by kernel_rfl
theorem thr_c1 (args : Array Value) (w : World) : (callFunc 168 args).run Tryz.prog w = .ok (.enter 168 args) w := by kernel_rfl
theorem thr_c2 (args : Array Value) (w : World) : (callFunc 169 args).run Tryz.prog w = .ok (.enter 169 args) w := by kernel_rfl
/-- the program's side; the document's, of one state -/
def PAu (own : Nat → Nat) (w : World) (p rp tp r : Nat) (u : Uv) : Prop := PA own w p rp tp r u.s u.m u.l
def PDu (own : Nat → Nat) (w : World) (q p2 t2 r : Nat) (u : Uv) (ms : List To4) : Prop := PD own w q p2 t2 r u.s u.m u.l ms
variable {own : Nat → Nat} {w : World} {p q rp tp p2 t2 r qe c : Nat} {u : Uv} {ms : List To4} {dev : Int} {t : Eg}
theorem thr_access (hA : PAu own w p rp tp r u) (hP : PU u ms) (a : Nat) (ha : a < 18446744073709551616) (wr : Bool) :
    Calls Tryz.prog 168 #[.agg #[.pointer (some ⟨p, 0, none⟩), .int .i64 dev], .int .u64 (a : Int), .bool wr] w fun x w' => x = .returned (.tuple #[.int .u64 ((accK r dev u a wr).1 : Int), .bool ((accK r dev u a wr).2.1 == 0)]) ∧ ∃ own', Step (fun x => x ≠ 0 ∧ x < 5) own w own' w' ∧ PAu own' w' p rp tp r (accU r dev u a wr) := by
  have hS1 : Step (fun _ => False) own w (ext own w 50) (w.alloc (.cells #[.pointer (some ⟨p, 0, none⟩), .int .i64 dev] 105)) := ⟨(Upd.refl _ _).alloc _, fun b hb => ext_old _ _ _ hb⟩
  have hA1 : PA (ext own w 50) (w.alloc (.cells #[.pointer (some ⟨p, 0, none⟩), .int .i64 dev] 105)) p rp tp r u.s u.m u.l := PA.step hA hS1 (fun x h => h.elim)
  have hAc := io_Access hA1.u hA1.mm hA1.t (by decide) (by decide) hP.ok hP.el dev a ha 8 (by decide) (by decide) wr
  have HA := Lib.hid hAc
  have HS := Lib.hid hS1
  clear hA hA1 hAc hS1 hP
  go_enter Tryz.func168, Tryz.ntmps168
  go_wp2_with fail
  ((with_reducible refine HA.out.mono ?_); rintro x w2 ⟨rfl, own2, hS2, hU2, hM2, hT2, _⟩)
  have HF := Lib.hid (And.intro ((HS.out.mono (C' := fun x => x ≠ 0 ∧ x < 5) (fun x h => h.elim)).trans (hS2.mono (fun x h => by omega))) (show PAu own2 w2 p rp tp r (accU r dev u a wr) from ⟨hU2, hM2, hT2⟩))
  clear hS2 hU2 hM2 hT2 HA HS
  go_wp2
  go_ret2
  exact ⟨rfl, own2, HF.out⟩
theorem thr_message (hA : PAu own w p rp tp r u) (hP : PU u ms) (a k : Nat) (ha : a < 18446744073709551616) :
    Calls Tryz.prog 169 #[.agg #[.pointer (some ⟨p, 0, none⟩), .int .i64 dev], .int .u64 (a : Int), .int .u64 (k : Int)] w fun x w' => x = .returned (.tuple #[.agg #[.int .i64 (msgT ms dev a k).1, .int .i64 (msgT ms dev a k).2.1], .bool (msgT ms dev a k).2.2]) ∧ ∃ own', Step (fun x => x ≠ 0 ∧ x < 5) own w own' w' ∧ PAu own' w' p rp tp r (msgU ms dev u a k) := by
  have hS1 : Step (fun _ => False) own w (ext own w 50) (w.alloc (.cells #[.pointer (some ⟨p, 0, none⟩), .int .i64 dev] 105)) := ⟨(Upd.refl _ _).alloc _, fun b hb => ext_old _ _ _ hb⟩
  obtain ⟨w1, hw1⟩ : ∃ w1, w.alloc (.cells #[.pointer (some ⟨p, 0, none⟩), .int .i64 dev] 105) = w1 := ⟨_, rfl⟩
  have hS2 : Step (fun _ => False) (ext own w 50) w1 (ext (ext own w 50) w1 50) (w1.alloc (.cells #[.int .i64 0, .int .i64 0] 47)) := ⟨(Upd.refl _ _).alloc _, fun b hb => ext_old _ _ _ hb⟩
  rw [hw1] at hS1
  have hA1 : PA (ext own w 50) w1 p rp tp r u.s u.m u.l := PA.step hA hS1 (fun x h => h.elim)
  have hA2 := hA1.step hS2 (fun x h => h.elim)
  have hMs := io_MsgX hA2.u hA2.mm (by decide) hP.ok hP.rel dev a k ha
  have hsz : w1.heap.size = w.heap.size + 1 := by rw [← hw1, World.size_alloc]
  have hB : Blk (w1.alloc (.cells #[.int .i64 0, .int .i64 0] 47)) (w.heap.size + 1) 47 #[.int .i64 0, .int .i64 0] ∧ ext (ext own w 50) w1 50 (w.heap.size + 1) = 50 := by rw [← hsz]; exact ⟨Blk.new _ _ _, ext_new _ _ _ (Nat.le_refl _)⟩
  have HM := Lib.hid hMs
  have H0 := Lib.hid (And.intro (hS1.trans hS2) (And.intro hA2.t hB))
  subst hw1
  clear hA hA1 hA2 hMs hS1 hS2 hB hsz hP
  go_enter Tryz.func169, Tryz.ntmps169
  go_wp2_with fail
  ((with_reducible refine HM.out.mono ?_); rintro x w2 ⟨rfl, own2, hS2, hU2, hM2⟩)
  obtain ⟨hb, ho⟩ := hS2.blk H0.out.2.2.1 H0.out.2.2.2 (by decide)
  have hT2 := H0.out.2.1.step hS2 (by decide) (by decide)
  have l0 := hb.cell 0
  have l1 := hb.cell 1
  simp only [List.getElem?_toArray, List.getElem?_cons_zero, List.getElem?_cons_succ] at l0 l1
  have g0 := hb.frozen 0
  have g1 := hb.frozen 1
  have hl := hb.lt
  obtain ⟨lb, hlb⟩ : ∃ lb, w.heap.size + 1 = lb := ⟨_, rfl⟩
  rw [hlb] at hb ho l0 l1 g0 g1 hl
  have hU := ((Upd.refl (· = lb) w2).setCell (p := ⟨lb, 0, none⟩) (.inl rfl) (.int .i64 (msgV ms dev a k).1)).setCell (p := ⟨lb, 1, none⟩) (.inl rfl) (.int .i64 (msgV ms dev a k).2)
  have hSs : Step (· = 50) own2 w2 own2 _ := ⟨hU.mono (fun i _ hi => by rw [hi]; exact ho), fun _ _ => rfl⟩
  have hPA : PAu own2 w2 p rp tp r (msgU ms dev u a k) := ⟨hU2, hM2, hT2⟩
  have hPA2 : PAu own2 _ p rp tp r (msgU ms dev u a k) := PA.step hPA hSs (fun x h => by omega)
  have hBl := (hb.set_ 0 (.int .i64 (msgV ms dev a k).1)).set_ 1 (.int .i64 (msgV ms dev a k).2)
  have hfin : Step (fun x => x ≠ 0 ∧ x < 5) own w own2 ((w2.setCell ⟨lb, 0, none⟩ (.int .i64 (msgV ms dev a k).1)).setCell ⟨lb, 1, none⟩ (.int .i64 (msgV ms dev a k).2)) := by
    have h1 : Step (fun x => x ≠ 0 ∧ x < 5) own w own2 w2 := (H0.out.1.mono (fun x h => h.elim)).trans (hS2.mono (fun x h => by omega))
    exact ⟨h1.upd.trans' hU (fun i hi e => by omega), h1.old⟩
  have HF := Lib.hid (And.intro hfin (And.intro hPA2 hBl))
  clear hS2 hU2 hM2 hT2 hb ho hU hSs hPA hPA2 hBl hfin HM H0
  go_wp2
  subst hlb
  refine bodyPost_ret (results_cell_tmp_row rfl _ _ (w.heap.size + 1) 47 #[.int .i64 (msgV ms dev a k).1, .int .i64 (msgV ms dev a k).2] _ rfl HF.out.2.2 Tryz.underlying47 rfl (by kernel_rfl)) rfl ?_
  exact ⟨rfl, own2, HF.out.1, HF.out.2.1⟩
theorem eref_accessU (h : ErAt own 61 w qe dev (.pointer (some ⟨p2, 0, none⟩)) (.pointer (some ⟨q, 0, none⟩)) t) (hD : PDu own w q p2 t2 r u ms) (hP : PU u ms) (a : Nat) (ha : a < 18446744073709551616) (wr : Bool) :
    Calls Tryz.prog 74 #[.pointer (some ⟨qe, 0, none⟩), .int .u64 (a : Int), .bool wr] w fun x w' => x = .returned (.tuple #[.int .u64 ((accK r dev u a wr).1 : Int), .bool ((accK r dev u a wr).2.1 == 0)]) ∧ ∃ own', Step (fun x => 4 < x ∧ x < 13) own w own' w' ∧ PDu own' w' q p2 t2 r (accU r dev u a wr) ms := by
  have hD1 : PD own w.drew q p2 t2 r u.s u.m u.l ms := PD.step hD ((Step.refl (fun _ => False) _ _).drew) (fun x h => h.elim)
  have hAc := uref_Access hD1.ur hD1.mr hD1.tr (by decide) (by decide) (by decide) hP.ok hP.el dev a ha 8 (by decide) (by decide) wr
  obtain ⟨k0, k1, k2, _⟩ := h.cells
  have hlt := h.1.lt
  have HA := Lib.hid hAc
  have HE := Lib.hid h
  clear h hD hD1 hAc hP
  have hS : (fun (W' : World) => W'.cell? ⟨qe, 2, none⟩ = some (.pointer (some ⟨q, 0, none⟩)) ∧ W'.cell? ⟨qe, 0, none⟩ = some (.int .i64 dev)) w := ⟨k2, k0⟩
  go_enter Tryz.func74, Tryz.ntmps74
  go_wp2_with fail
  refine wpE_region (S := fun (W' : World) => W'.cell? ⟨qe, 2, none⟩ = some (.pointer (some ⟨q, 0, none⟩)) ∧ W'.cell? ⟨qe, 0, none⟩ = some (.int .i64 dev)) (s := 14) (by kernel_rfl) ?_
  have hS : (fun (W' : World) => W'.cell? ⟨qe, 2, none⟩ = some (.pointer (some ⟨q, 0, none⟩)) ∧ W'.cell? ⟨qe, 0, none⟩ = some (.int .i64 dev)) _ := hS
  refine wpE_take (i := 0) (oi := { dst := some 20, op := Go.Op.move (Go.Operand.tmp 0), type := 71, pos := "ref.go:105", after := #[], guard := none }) (v := ?_) rfl (by kernel_rfl) (fun _ _ _ h => h) (Or.inl ⟨by rfl, fun W hW => ?_⟩) hS ?_
  rotate_left
  · obtain ⟨hw1, hw2⟩ := hW; go_simp; (try go_bits); (try rw [if_pos (by omega)]); (try with_reducible rfl)
  (try simp only [Act.put, List.setIfInBounds_toArray, List.set_cons_succ, List.set_cons_zero])
  refine wpE_take (i := 1) (oi := { dst := some 21, op := Go.Op.nilCheck (Go.Operand.tmp 20), type := 0, pos := "ref.go:105", after := #[{ on := 0, ground := Go.Ground.data }], guard := none }) (v := ?_) rfl (by kernel_rfl) (fun _ _ _ h => h) (Or.inl ⟨by rfl, fun W hW => ?_⟩) hS ?_
  rotate_left
  · obtain ⟨hw1, hw2⟩ := hW; go_simp; (try go_bits); (try rw [if_pos (by omega)]); (try with_reducible rfl)
  (try simp only [Act.put, List.setIfInBounds_toArray, List.set_cons_succ, List.set_cons_zero])
  refine wpE_take (i := 2) (oi := { dst := some 22, op := Go.Op.fieldAddr 74 (Go.Operand.tmp 21) 2, type := 0, pos := "ref.go:105", after := #[{ on := 1, ground := Go.Ground.data }], guard := none }) (v := ?_) rfl (by kernel_rfl) (fun _ _ _ h => h) (Or.inl ⟨by rfl, fun W hW => ?_⟩) hS ?_
  rotate_left
  · obtain ⟨hw1, hw2⟩ := hW; go_simp; (try go_bits); (try rw [if_pos (by omega)]); (try with_reducible rfl)
  (try simp only [Act.put, List.setIfInBounds_toArray, List.set_cons_succ, List.set_cons_zero])
  refine wpE_take (i := 3) (oi := { dst := some 23, op := Go.Op.load 30 (Go.Operand.tmp 22), type := 30, pos := "ref.go:105", after := #[{ on := 2, ground := Go.Ground.data }], guard := none }) (v := ?_) rfl (by kernel_rfl) (fun _ _ _ h => h) (Or.inl ⟨by rfl, fun W hW => ?_⟩) hS ?_
  rotate_left
  · obtain ⟨hw1, hw2⟩ := hW; go_simp; (try go_bits); (try rw [if_pos (by omega)]); (try with_reducible rfl)
  (try simp only [Act.put, List.setIfInBounds_toArray, List.set_cons_succ, List.set_cons_zero])
  refine wpE_take (i := 4) (oi := { dst := some 24, op := Go.Op.move (Go.Operand.tmp 0), type := 71, pos := "ref.go:105", after := #[], guard := none }) (v := ?_) rfl (by kernel_rfl) (fun _ _ _ h => h) (Or.inl ⟨by rfl, fun W hW => ?_⟩) hS ?_
  rotate_left
  · obtain ⟨hw1, hw2⟩ := hW; go_simp; (try go_bits); (try rw [if_pos (by omega)]); (try with_reducible rfl)
  (try simp only [Act.put, List.setIfInBounds_toArray, List.set_cons_succ, List.set_cons_zero])
  refine wpE_take (i := 5) (oi := { dst := some 25, op := Go.Op.nilCheck (Go.Operand.tmp 24), type := 0, pos := "ref.go:105", after := #[{ on := 4, ground := Go.Ground.data }], guard := none }) (v := ?_) rfl (by kernel_rfl) (fun _ _ _ h => h) (Or.inl ⟨by rfl, fun W hW => ?_⟩) hS ?_
  rotate_left
  · obtain ⟨hw1, hw2⟩ := hW; go_simp; (try go_bits); (try rw [if_pos (by omega)]); (try with_reducible rfl)
  (try simp only [Act.put, List.setIfInBounds_toArray, List.set_cons_succ, List.set_cons_zero])
  refine wpE_take (i := 6) (oi := { dst := some 26, op := Go.Op.fieldAddr 74 (Go.Operand.tmp 25) 0, type := 0, pos := "ref.go:105", after := #[{ on := 5, ground := Go.Ground.data }], guard := none }) (v := ?_) rfl (by kernel_rfl) (fun _ _ _ h => h) (Or.inl ⟨by rfl, fun W hW => ?_⟩) hS ?_
  rotate_left
  · obtain ⟨hw1, hw2⟩ := hW; go_simp; (try go_bits); (try rw [if_pos (by omega)]); (try with_reducible rfl)
  (try simp only [Act.put, List.setIfInBounds_toArray, List.set_cons_succ, List.set_cons_zero])
  refine wpE_take (i := 7) (oi := { dst := some 27, op := Go.Op.load 3 (Go.Operand.tmp 26), type := 3, pos := "ref.go:105", after := #[{ on := 6, ground := Go.Ground.data }], guard := none }) (v := ?_) rfl (by kernel_rfl) (fun _ _ _ h => h) (Or.inl ⟨by rfl, fun W hW => ?_⟩) hS ?_
  rotate_left
  · obtain ⟨hw1, hw2⟩ := hW; go_simp; (try go_bits); (try rw [if_pos (by omega)]); (try with_reducible rfl)
  (try simp only [Act.put, List.setIfInBounds_toArray, List.set_cons_succ, List.set_cons_zero])
  refine wpE_take (i := 8) (oi := { dst := some 28, op := Go.Op.move (Go.Operand.tmp 1), type := 23, pos := "ref.go:105", after := #[], guard := none }) (v := ?_) rfl (by kernel_rfl) (fun _ _ _ h => h) (Or.inl ⟨by rfl, fun W hW => ?_⟩) hS ?_
  rotate_left
  · obtain ⟨hw1, hw2⟩ := hW; go_simp; (try go_bits); (try rw [if_pos (by omega)]); (try with_reducible rfl)
  (try simp only [Act.put, List.setIfInBounds_toArray, List.set_cons_succ, List.set_cons_zero])
  refine wpE_take (i := 9) (oi := { dst := some 29, op := Go.Op.move (Go.Operand.tmp 2), type := 4, pos := "ref.go:105", after := #[], guard := none }) (v := ?_) rfl (by kernel_rfl) (fun _ _ _ h => h) (Or.inl ⟨by rfl, fun W hW => ?_⟩) hS ?_
  rotate_left
  · obtain ⟨hw1, hw2⟩ := hW; go_simp; (try go_bits); (try rw [if_pos (by omega)]); (try with_reducible rfl)
  (try simp only [Act.put, List.setIfInBounds_toArray, List.set_cons_succ, List.set_cons_zero])
  refine wpE_only (i := 10) (oi := { dst := some 30, op := Go.Op.call { callee := Go.Callee.value (Go.Operand.func 77), args := #[Go.Operand.tmp 23, Go.Operand.tmp 27, Go.Operand.tmp 28, Go.Operand.const (Go.Value.int Go.IntKind.i64 8), Go.Operand.tmp 29], argTypes := #[30, 3, 23, 3, 4] }, type := 52, pos := "ref.go:105", after := #[{ on := 3, ground := Go.Ground.data }, { on := 7, ground := Go.Ground.data }, { on := 8, ground := Go.Ground.data }, { on := 9, ground := Go.Ground.data }], guard := none }) rfl (by kernel_rfl) (by rfl) (fun K hK => ?_)
  go_simp; refine HA.out.mono ?_; rintro x w2 ⟨rfl, own2, hS2, hU2, hM2, hT2⟩
  have hS3 := ((Step.refl (fun x => 4 < x ∧ x < 13) own w).drew).trans (hS2.mono (fun x h => by omega))
  have hE2 := HE.out.step hS3 (by decide)
  have y0 := hE2.cells.1
  have y2 := hE2.cells.2.2.1
  have HF := Lib.hid (And.intro hS3 (show PDu own2 w2 q p2 t2 r (accU r dev u a wr) ms from ⟨hM2, hU2, hT2⟩))
  clear hS2 hU2 hM2 hT2 HA HE hS3 hE2 hS
  have hS : (fun (W' : World) => W'.cell? ⟨qe, 2, none⟩ = some (.pointer (some ⟨q, 0, none⟩)) ∧ W'.cell? ⟨qe, 0, none⟩ = some (.int .i64 dev)) w2 := ⟨y2, y0⟩
  refine hK _ _ hS ?_; clear hK K
  (try simp only [Act.put, List.setIfInBounds_toArray, List.set_cons_succ, List.set_cons_zero])
  refine wpE_take (i := 11) (oi := { dst := some 31, op := Go.Op.extract (Go.Operand.tmp 30) 0, type := 23, pos := "ref.go:105", after := #[{ on := 10, ground := Go.Ground.data }], guard := none }) (v := ?_) rfl (by kernel_rfl) (fun _ _ _ h => h) (Or.inl ⟨by rfl, fun W hW => ?_⟩) hS ?_
  rotate_left
  · obtain ⟨hw1, hw2⟩ := hW; go_simp; (try go_bits); (try rw [if_pos (by omega)]); (try with_reducible rfl)
  (try simp only [Act.put, List.setIfInBounds_toArray, List.set_cons_succ, List.set_cons_zero])
  refine wpE_take (i := 12) (oi := { dst := some 32, op := Go.Op.extract (Go.Operand.tmp 30) 1, type := 4, pos := "ref.go:105", after := #[{ on := 10, ground := Go.Ground.data }], guard := none }) (v := ?_) rfl (by kernel_rfl) (fun _ _ _ h => h) (Or.inl ⟨by rfl, fun W hW => ?_⟩) hS ?_
  rotate_left
  · obtain ⟨hw1, hw2⟩ := hW; go_simp; (try go_bits); (try rw [if_pos (by omega)]); (try with_reducible rfl)
  (try simp only [Act.put, List.setIfInBounds_toArray, List.set_cons_succ, List.set_cons_zero])
  refine wpE_only (i := 13) (oi := { dst := some 6, op := Go.Op.assign (Go.Operand.tmp 31), type := 23, pos := "ref.go:105", after := #[{ on := 11, ground := Go.Ground.data }, { on := 10, ground := Go.Ground.chain }, { on := 0, ground := Go.Ground.phase }, { on := 1, ground := Go.Ground.phase }, { on := 2, ground := Go.Ground.phase }, { on := 3, ground := Go.Ground.phase }, { on := 4, ground := Go.Ground.phase }, { on := 5, ground := Go.Ground.phase }, { on := 6, ground := Go.Ground.phase }, { on := 7, ground := Go.Ground.phase }, { on := 8, ground := Go.Ground.phase }, { on := 9, ground := Go.Ground.phase }, { on := 10, ground := Go.Ground.phase }, { on := 11, ground := Go.Ground.phase }, { on := 12, ground := Go.Ground.phase }], guard := none }) rfl (by kernel_rfl) (by rfl) (fun K hK => ?_)
  go_simp; (try go_bits); refine hK _ _ hS ?_; clear hK K
  (try simp only [Act.put, List.setIfInBounds_toArray, List.set_cons_succ, List.set_cons_zero])
  refine wpE_last (oi := { dst := some 7, op := Go.Op.assign (Go.Operand.tmp 32), type := 4, pos := "ref.go:105", after := #[{ on := 12, ground := Go.Ground.data }, { on := 13, ground := Go.Ground.chain }, { on := 0, ground := Go.Ground.phase }, { on := 1, ground := Go.Ground.phase }, { on := 2, ground := Go.Ground.phase }, { on := 3, ground := Go.Ground.phase }, { on := 4, ground := Go.Ground.phase }, { on := 5, ground := Go.Ground.phase }, { on := 6, ground := Go.Ground.phase }, { on := 7, ground := Go.Ground.phase }, { on := 8, ground := Go.Ground.phase }, { on := 9, ground := Go.Ground.phase }, { on := 10, ground := Go.Ground.phase }, { on := 11, ground := Go.Ground.phase }, { on := 12, ground := Go.Ground.phase }, { on := 13, ground := Go.Ground.phase }], guard := none }) rfl (by kernel_rfl) (by kernel_rfl) (by rfl) (fun K hK => ?_)
  go_simp; (try go_bits); refine hK _ _ ?_; clear hK K
  go_wp2
  go_ret2
  exact ⟨rfl, own2, HF.out⟩
theorem eref_messageU (h : ErAt own 61 w qe dev (.pointer (some ⟨p2, 0, none⟩)) (.pointer (some ⟨q, 0, none⟩)) t) (hok : ∀ k, t.rg k < 18446744073709551616) (hD : PDu own w q p2 t2 r u ms) (hP : PU u ms) (hms : ms.length < 4398046511104) :
    Calls Tryz.prog 75 #[.pointer (some ⟨qe, 0, none⟩)] w fun x w' => x = .returned (.tuple #[.agg #[.int .i64 (if t.rg 40 = 0 then (0, 0, false) else msgT ms dev (t.rg 40) (t.rg 48)).1, .int .i64 (if t.rg 40 = 0 then (0, 0, false) else msgT ms dev (t.rg 40) (t.rg 48)).2.1], .bool (if t.rg 40 = 0 then (0, 0, false) else msgT ms dev (t.rg 40) (t.rg 48)).2.2]) ∧
      ∃ own', Step (fun x => 4 < x ∧ x < 13) own w own' w' ∧ PDu own' w' q p2 t2 r (if t.rg 40 = 0 then u else msgU ms dev u (t.rg 40) (t.rg 48)) ms := by
  have hS1 : Step (fun _ => False) own w (ext own w 50) (w.alloc (.cells #[.int .i64 0, .int .i64 0] 47)) := ⟨(Upd.refl _ _).alloc _, fun b hb => ext_old _ _ _ hb⟩
  have hE1 := h.step hS1 (fun h => h)
  have hD1 : PD (ext own w 50) (w.alloc (.cells #[.int .i64 0, .int .i64 0] 47)) q p2 t2 r u.s u.m u.l ms := PD.step hD hS1 (fun x h => h.elim)
  have hB := Blk.new w 47 #[.int .i64 0, .int .i64 0]
  have ho : ext own w 50 w.heap.size = 50 := ext_new _ _ _ (Nat.le_refl _)
  have h40 := hok 40
  have h48 := hok 48
  obtain ⟨_, _, _, _, _, _, _, k8, _⟩ := hE1.cells
  by_cases h0 : t.rg 40 = 0
  · rw [if_pos h0, if_pos h0]
    have e0 : ((t.rg 40 : Int) == 0) = true := by rw [h0]; rfl
    have HF := Lib.hid (And.intro (hS1.mono (C' := fun x => 4 < x ∧ x < 13) (fun x h => h.elim)) (And.intro hD1 hB))
    have hlt := h.1.lt
    obtain ⟨_, _, _, _, _, _, _, j8, _⟩ := h.cells
    clear hS1 hE1 hD1 hB ho h hD hP h0
    go_enter Tryz.func75, Tryz.ntmps75
    go_wp2
    refine bodyPost_ret (results_cell_tmp_row rfl _ _ w.heap.size 47 #[.int .i64 0, .int .i64 0] _ rfl HF.out.2.2 Tryz.underlying47 rfl (by kernel_rfl)) rfl ?_
    exact ⟨rfl, _, HF.out.1, HF.out.2.1⟩
  · rw [if_neg h0, if_neg h0]
    have e0 : ((t.rg 40 : Int) == 0) = false := by simp; omega
    have hD2 : PD (ext own w 50) (w.alloc (.cells #[.int .i64 0, .int .i64 0] 47)).drew q p2 t2 r u.s u.m u.l ms := PD.step hD1 ((Step.refl (fun _ => False) _ _).drew) (fun x h => h.elim)
    have hMs := uref_Message hD2.ur hD2.mr (by decide) (by decide) hP.ok hms dev (t.rg 40) (t.rg 48 : Int) h40
    have HM := Lib.hid hMs
    have HE := Lib.hid hE1
    have H0 := Lib.hid (And.intro hS1 (And.intro hD1.tr (And.intro hB ho)))
    obtain ⟨k0, k1, k2, _, _, _, _, k8, k9, _, kl⟩ := hE1.cells
    have hlt := h.1.lt
    clear hS1 hE1 hD1 hB ho h hD hP h0 hMs hD2
    have hS : (fun (W' : World) => W'.cell? ⟨qe, 2, none⟩ = some (.pointer (some ⟨q, 0, none⟩)) ∧ W'.cell? ⟨qe, 0, none⟩ = some (.int .i64 dev) ∧ W'.cell? ⟨qe, 8, none⟩ = some (.int .u64 (t.rg 40 : Int)) ∧ W'.cell? ⟨qe, 9, none⟩ = some (.int .u64 (t.rg 48 : Int))) (w.alloc (.cells #[.int .i64 0, .int .i64 0] 47)) := ⟨k2, k0, k8, k9⟩
    go_enter Tryz.func75, Tryz.ntmps75
    go_wp2_with fail
    refine wpE_region (S := fun (W' : World) => W'.cell? ⟨qe, 2, none⟩ = some (.pointer (some ⟨q, 0, none⟩)) ∧ W'.cell? ⟨qe, 0, none⟩ = some (.int .i64 dev) ∧ W'.cell? ⟨qe, 8, none⟩ = some (.int .u64 (t.rg 40 : Int)) ∧ W'.cell? ⟨qe, 9, none⟩ = some (.int .u64 (t.rg 48 : Int))) (s := 22) (by kernel_rfl) ?_
    have hS : (fun (W' : World) => W'.cell? ⟨qe, 2, none⟩ = some (.pointer (some ⟨q, 0, none⟩)) ∧ W'.cell? ⟨qe, 0, none⟩ = some (.int .i64 dev) ∧ W'.cell? ⟨qe, 8, none⟩ = some (.int .u64 (t.rg 40 : Int)) ∧ W'.cell? ⟨qe, 9, none⟩ = some (.int .u64 (t.rg 48 : Int))) _ := hS
    refine wpE_take (i := 0) (oi := { dst := some 16, op := Go.Op.move (Go.Operand.tmp 0), type := 71, pos := "ref.go:114", after := #[], guard := none }) (v := ?_) rfl (by kernel_rfl) (fun _ _ _ h => h) (Or.inl ⟨by rfl, fun W hW => ?_⟩) hS ?_
    rotate_left
    · obtain ⟨hw1, hw2, hw3, hw4⟩ := hW; go_simp; (try go_bits); (try rw [if_pos (by omega)]); (try with_reducible rfl)
    (try simp only [Act.put, List.setIfInBounds_toArray, List.set_cons_succ, List.set_cons_zero])
    refine wpE_take (i := 1) (oi := { dst := some 17, op := Go.Op.nilCheck (Go.Operand.tmp 16), type := 0, pos := "ref.go:114", after := #[{ on := 0, ground := Go.Ground.data }], guard := none }) (v := ?_) rfl (by kernel_rfl) (fun _ _ _ h => h) (Or.inl ⟨by rfl, fun W hW => ?_⟩) hS ?_
    rotate_left
    · obtain ⟨hw1, hw2, hw3, hw4⟩ := hW; go_simp; (try go_bits); (try rw [if_pos (by omega)]); (try with_reducible rfl)
    (try simp only [Act.put, List.setIfInBounds_toArray, List.set_cons_succ, List.set_cons_zero])
    refine wpE_take (i := 2) (oi := { dst := some 18, op := Go.Op.fieldAddr 74 (Go.Operand.tmp 17) 2, type := 0, pos := "ref.go:114", after := #[{ on := 1, ground := Go.Ground.data }], guard := none }) (v := ?_) rfl (by kernel_rfl) (fun _ _ _ h => h) (Or.inl ⟨by rfl, fun W hW => ?_⟩) hS ?_
    rotate_left
    · obtain ⟨hw1, hw2, hw3, hw4⟩ := hW; go_simp; (try go_bits); (try rw [if_pos (by omega)]); (try with_reducible rfl)
    (try simp only [Act.put, List.setIfInBounds_toArray, List.set_cons_succ, List.set_cons_zero])
    refine wpE_take (i := 3) (oi := { dst := some 19, op := Go.Op.load 30 (Go.Operand.tmp 18), type := 30, pos := "ref.go:114", after := #[{ on := 2, ground := Go.Ground.data }], guard := none }) (v := ?_) rfl (by kernel_rfl) (fun _ _ _ h => h) (Or.inl ⟨by rfl, fun W hW => ?_⟩) hS ?_
    rotate_left
    · obtain ⟨hw1, hw2, hw3, hw4⟩ := hW; go_simp; (try go_bits); (try rw [if_pos (by omega)]); (try with_reducible rfl)
    (try simp only [Act.put, List.setIfInBounds_toArray, List.set_cons_succ, List.set_cons_zero])
    refine wpE_take (i := 4) (oi := { dst := some 20, op := Go.Op.move (Go.Operand.tmp 0), type := 71, pos := "ref.go:114", after := #[], guard := none }) (v := ?_) rfl (by kernel_rfl) (fun _ _ _ h => h) (Or.inl ⟨by rfl, fun W hW => ?_⟩) hS ?_
    rotate_left
    · obtain ⟨hw1, hw2, hw3, hw4⟩ := hW; go_simp; (try go_bits); (try rw [if_pos (by omega)]); (try with_reducible rfl)
    (try simp only [Act.put, List.setIfInBounds_toArray, List.set_cons_succ, List.set_cons_zero])
    refine wpE_take (i := 5) (oi := { dst := some 21, op := Go.Op.nilCheck (Go.Operand.tmp 20), type := 0, pos := "ref.go:114", after := #[{ on := 4, ground := Go.Ground.data }], guard := none }) (v := ?_) rfl (by kernel_rfl) (fun _ _ _ h => h) (Or.inl ⟨by rfl, fun W hW => ?_⟩) hS ?_
    rotate_left
    · obtain ⟨hw1, hw2, hw3, hw4⟩ := hW; go_simp; (try go_bits); (try rw [if_pos (by omega)]); (try with_reducible rfl)
    (try simp only [Act.put, List.setIfInBounds_toArray, List.set_cons_succ, List.set_cons_zero])
    refine wpE_take (i := 6) (oi := { dst := some 22, op := Go.Op.fieldAddr 74 (Go.Operand.tmp 21) 0, type := 0, pos := "ref.go:114", after := #[{ on := 5, ground := Go.Ground.data }], guard := none }) (v := ?_) rfl (by kernel_rfl) (fun _ _ _ h => h) (Or.inl ⟨by rfl, fun W hW => ?_⟩) hS ?_
    rotate_left
    · obtain ⟨hw1, hw2, hw3, hw4⟩ := hW; go_simp; (try go_bits); (try rw [if_pos (by omega)]); (try with_reducible rfl)
    (try simp only [Act.put, List.setIfInBounds_toArray, List.set_cons_succ, List.set_cons_zero])
    refine wpE_take (i := 7) (oi := { dst := some 23, op := Go.Op.load 3 (Go.Operand.tmp 22), type := 3, pos := "ref.go:114", after := #[{ on := 6, ground := Go.Ground.data }], guard := none }) (v := ?_) rfl (by kernel_rfl) (fun _ _ _ h => h) (Or.inl ⟨by rfl, fun W hW => ?_⟩) hS ?_
    rotate_left
    · obtain ⟨hw1, hw2, hw3, hw4⟩ := hW; go_simp; (try go_bits); (try rw [if_pos (by omega)]); (try with_reducible rfl)
    (try simp only [Act.put, List.setIfInBounds_toArray, List.set_cons_succ, List.set_cons_zero])
    refine wpE_take (i := 8) (oi := { dst := some 24, op := Go.Op.move (Go.Operand.tmp 0), type := 71, pos := "ref.go:114", after := #[], guard := none }) (v := ?_) rfl (by kernel_rfl) (fun _ _ _ h => h) (Or.inl ⟨by rfl, fun W hW => ?_⟩) hS ?_
    rotate_left
    · obtain ⟨hw1, hw2, hw3, hw4⟩ := hW; go_simp; (try go_bits); (try rw [if_pos (by omega)]); (try with_reducible rfl)
    (try simp only [Act.put, List.setIfInBounds_toArray, List.set_cons_succ, List.set_cons_zero])
    refine wpE_take (i := 9) (oi := { dst := some 25, op := Go.Op.nilCheck (Go.Operand.tmp 24), type := 0, pos := "ref.go:114", after := #[{ on := 8, ground := Go.Ground.data }], guard := none }) (v := ?_) rfl (by kernel_rfl) (fun _ _ _ h => h) (Or.inl ⟨by rfl, fun W hW => ?_⟩) hS ?_
    rotate_left
    · obtain ⟨hw1, hw2, hw3, hw4⟩ := hW; go_simp; (try go_bits); (try rw [if_pos (by omega)]); (try with_reducible rfl)
    (try simp only [Act.put, List.setIfInBounds_toArray, List.set_cons_succ, List.set_cons_zero])
    refine wpE_take (i := 10) (oi := { dst := some 26, op := Go.Op.fieldAddr 74 (Go.Operand.tmp 25) 3, type := 0, pos := "ref.go:114", after := #[{ on := 9, ground := Go.Ground.data }], guard := none }) (v := ?_) rfl (by kernel_rfl) (fun _ _ _ h => h) (Or.inl ⟨by rfl, fun W hW => ?_⟩) hS ?_
    rotate_left
    · obtain ⟨hw1, hw2, hw3, hw4⟩ := hW; go_simp; (try go_bits); (try rw [if_pos (by omega)]); (try with_reducible rfl)
    (try simp only [Act.put, List.setIfInBounds_toArray, List.set_cons_succ, List.set_cons_zero])
    refine wpE_take (i := 11) (oi := { dst := some 27, op := Go.Op.indexAddr 72 (Go.Operand.tmp 26) (Go.Operand.const (Go.Value.int Go.IntKind.i64 5)), type := 0, pos := "ref.go:114", after := #[{ on := 10, ground := Go.Ground.data }], guard := none }) (v := ?_) rfl (by kernel_rfl) (fun _ _ _ h => h) (Or.inl ⟨by rfl, fun W hW => ?_⟩) hS ?_
    rotate_left
    · obtain ⟨hw1, hw2, hw3, hw4⟩ := hW; go_simp; (try go_bits); (try rw [if_pos (by omega)]); (try with_reducible rfl)
    (try simp only [Act.put, List.setIfInBounds_toArray, List.set_cons_succ, List.set_cons_zero])
    refine wpE_take (i := 12) (oi := { dst := some 28, op := Go.Op.load 23 (Go.Operand.tmp 27), type := 23, pos := "ref.go:114", after := #[{ on := 11, ground := Go.Ground.data }], guard := none }) (v := ?_) rfl (by kernel_rfl) (fun _ _ _ h => h) (Or.inl ⟨by rfl, fun W hW => ?_⟩) hS ?_
    rotate_left
    · obtain ⟨hw1, hw2, hw3, hw4⟩ := hW; go_simp; (try go_bits); (try rw [if_pos (by omega)]); (try with_reducible rfl)
    (try simp only [Act.put, List.setIfInBounds_toArray, List.set_cons_succ, List.set_cons_zero])
    refine wpE_take (i := 13) (oi := { dst := some 29, op := Go.Op.move (Go.Operand.tmp 0), type := 71, pos := "ref.go:114", after := #[], guard := none }) (v := ?_) rfl (by kernel_rfl) (fun _ _ _ h => h) (Or.inl ⟨by rfl, fun W hW => ?_⟩) hS ?_
    rotate_left
    · obtain ⟨hw1, hw2, hw3, hw4⟩ := hW; go_simp; (try go_bits); (try rw [if_pos (by omega)]); (try with_reducible rfl)
    (try simp only [Act.put, List.setIfInBounds_toArray, List.set_cons_succ, List.set_cons_zero])
    refine wpE_take (i := 14) (oi := { dst := some 30, op := Go.Op.nilCheck (Go.Operand.tmp 29), type := 0, pos := "ref.go:114", after := #[{ on := 13, ground := Go.Ground.data }], guard := none }) (v := ?_) rfl (by kernel_rfl) (fun _ _ _ h => h) (Or.inl ⟨by rfl, fun W hW => ?_⟩) hS ?_
    rotate_left
    · obtain ⟨hw1, hw2, hw3, hw4⟩ := hW; go_simp; (try go_bits); (try rw [if_pos (by omega)]); (try with_reducible rfl)
    (try simp only [Act.put, List.setIfInBounds_toArray, List.set_cons_succ, List.set_cons_zero])
    refine wpE_take (i := 15) (oi := { dst := some 31, op := Go.Op.fieldAddr 74 (Go.Operand.tmp 30) 3, type := 0, pos := "ref.go:114", after := #[{ on := 14, ground := Go.Ground.data }], guard := none }) (v := ?_) rfl (by kernel_rfl) (fun _ _ _ h => h) (Or.inl ⟨by rfl, fun W hW => ?_⟩) hS ?_
    rotate_left
    · obtain ⟨hw1, hw2, hw3, hw4⟩ := hW; go_simp; (try go_bits); (try rw [if_pos (by omega)]); (try with_reducible rfl)
    (try simp only [Act.put, List.setIfInBounds_toArray, List.set_cons_succ, List.set_cons_zero])
    refine wpE_take (i := 16) (oi := { dst := some 32, op := Go.Op.indexAddr 72 (Go.Operand.tmp 31) (Go.Operand.const (Go.Value.int Go.IntKind.i64 6)), type := 0, pos := "ref.go:114", after := #[{ on := 15, ground := Go.Ground.data }], guard := none }) (v := ?_) rfl (by kernel_rfl) (fun _ _ _ h => h) (Or.inl ⟨by rfl, fun W hW => ?_⟩) hS ?_
    rotate_left
    · obtain ⟨hw1, hw2, hw3, hw4⟩ := hW; go_simp; (try go_bits); (try rw [if_pos (by omega)]); (try with_reducible rfl)
    (try simp only [Act.put, List.setIfInBounds_toArray, List.set_cons_succ, List.set_cons_zero])
    refine wpE_take (i := 17) (oi := { dst := some 33, op := Go.Op.load 23 (Go.Operand.tmp 32), type := 23, pos := "ref.go:114", after := #[{ on := 16, ground := Go.Ground.data }], guard := none }) (v := ?_) rfl (by kernel_rfl) (fun _ _ _ h => h) (Or.inl ⟨by rfl, fun W hW => ?_⟩) hS ?_
    rotate_left
    · obtain ⟨hw1, hw2, hw3, hw4⟩ := hW; go_simp; (try go_bits); (try rw [if_pos (by omega)]); (try with_reducible rfl)
    (try simp only [Act.put, List.setIfInBounds_toArray, List.set_cons_succ, List.set_cons_zero])
    refine wpE_only (i := 18) (oi := { dst := some 34, op := Go.Op.call { callee := Go.Callee.value (Go.Operand.func 79), args := #[Go.Operand.tmp 19, Go.Operand.tmp 23, Go.Operand.tmp 28, Go.Operand.tmp 33], argTypes := #[30, 3, 23, 23] }, type := 61, pos := "ref.go:114", after := #[{ on := 3, ground := Go.Ground.data }, { on := 7, ground := Go.Ground.data }, { on := 12, ground := Go.Ground.data }, { on := 17, ground := Go.Ground.data }], guard := none }) rfl (by kernel_rfl) (by rfl) (fun K hK => ?_)
    go_simp; refine HM.out.mono ?_; rintro x w2 ⟨rfl, own2, hS2, hU2, hM2⟩
    have hS3 := ((Step.refl (fun x => 4 < x ∧ x < 13) (ext own w 50) (w.alloc (.cells #[.int .i64 0, .int .i64 0] 47))).drew).trans (hS2.mono (fun x h => by omega))
    have hE2 := HE.out.step hS3 (by decide)
    obtain ⟨hb, ho⟩ := hS3.blk H0.out.2.2.1 H0.out.2.2.2 (by decide)
    have hT2 := H0.out.2.1.step ((Step.refl (fun _ => False) (ext own w 50) _).drew) (by decide) (by decide)
    have hT3 := hT2.step hS2 (by decide) (by decide)
    obtain ⟨y0, _, y2, _, _, _, _, y8, y9, _, _⟩ := hE2.cells
    have l0 := hb.cell 0
    have l1 := hb.cell 1
    simp only [List.getElem?_toArray, List.getElem?_cons_zero, List.getElem?_cons_succ] at l0 l1
    have g0 := hb.frozen 0
    have g1 := hb.frozen 1
    have hl := hb.lt
    have hne : qe ≠ w.heap.size := by have := hlt; omega
    have hPD : PDu own2 w2 q p2 t2 r (msgU ms dev u (t.rg 40) (t.rg 48)) ms := ⟨hM2, hU2, hT3⟩
    have hU := ((Upd.refl (· = w.heap.size) w2).setCell (p := ⟨w.heap.size, 0, none⟩) (.inl rfl) (.int .i64 (msgV ms dev (t.rg 40) (t.rg 48)).1)).setCell (p := ⟨w.heap.size, 1, none⟩) (.inl rfl) (.int .i64 (msgV ms dev (t.rg 40) (t.rg 48)).2)
    have hSs : Step (· = 50) own2 w2 own2 _ := ⟨hU.mono (fun i _ hi => by rw [hi]; exact ho), fun _ _ => rfl⟩
    have hPD2 : PDu own2 _ q p2 t2 r (msgU ms dev u (t.rg 40) (t.rg 48)) ms := PD.step hPD hSs (fun x h => by omega)
    have hBl := (hb.set_ 0 (.int .i64 (msgV ms dev (t.rg 40) (t.rg 48)).1)).set_ 1 (.int .i64 (msgV ms dev (t.rg 40) (t.rg 48)).2)
    have h1 : Step (fun x => 4 < x ∧ x < 13) own w own2 w2 := (H0.out.1.mono (fun x h => h.elim)).trans hS3
    have hfin : Step (fun x => 4 < x ∧ x < 13) own w own2 ((w2.setCell ⟨w.heap.size, 0, none⟩ (.int .i64 (msgV ms dev (t.rg 40) (t.rg 48)).1)).setCell ⟨w.heap.size, 1, none⟩ (.int .i64 (msgV ms dev (t.rg 40) (t.rg 48)).2)) := ⟨h1.upd.trans' hU (fun i hi e => by omega), h1.old⟩
    have HF := Lib.hid (And.intro hfin (And.intro hPD2 hBl))
    clear hS2 hU2 hM2 hT2 hT3 HM HE hS3 hE2 hS hb ho hPD hU hSs hPD2 hBl h1 hfin H0
    have hS : (fun (W' : World) => W'.cell? ⟨qe, 2, none⟩ = some (.pointer (some ⟨q, 0, none⟩)) ∧ W'.cell? ⟨qe, 0, none⟩ = some (.int .i64 dev) ∧ W'.cell? ⟨qe, 8, none⟩ = some (.int .u64 (t.rg 40 : Int)) ∧ W'.cell? ⟨qe, 9, none⟩ = some (.int .u64 (t.rg 48 : Int))) w2 := ⟨y2, y0, y8, y9⟩
    refine hK _ _ hS ?_; clear hK K
    (try simp only [Act.put, List.setIfInBounds_toArray, List.set_cons_succ, List.set_cons_zero])
    refine wpE_take (i := 19) (oi := { dst := some 35, op := Go.Op.extract (Go.Operand.tmp 34) 0, type := 47, pos := "ref.go:114", after := #[{ on := 18, ground := Go.Ground.data }], guard := none }) (v := ?_) rfl (by kernel_rfl) (fun _ _ _ h => h) (Or.inl ⟨by rfl, fun W hW => ?_⟩) hS ?_
    rotate_left
    · obtain ⟨hw1, hw2, hw3, hw4⟩ := hW; go_simp; (try go_bits); (try rw [if_pos (by omega)]); (try with_reducible rfl)
    (try simp only [Act.put, List.setIfInBounds_toArray, List.set_cons_succ, List.set_cons_zero])
    refine wpE_take (i := 20) (oi := { dst := some 36, op := Go.Op.extract (Go.Operand.tmp 34) 1, type := 4, pos := "ref.go:114", after := #[{ on := 18, ground := Go.Ground.data }], guard := none }) (v := ?_) rfl (by kernel_rfl) (fun _ _ _ h => h) (Or.inl ⟨by rfl, fun W hW => ?_⟩) hS ?_
    rotate_left
    · obtain ⟨hw1, hw2, hw3, hw4⟩ := hW; go_simp; (try go_bits); (try rw [if_pos (by omega)]); (try with_reducible rfl)
    (try simp only [Act.put, List.setIfInBounds_toArray, List.set_cons_succ, List.set_cons_zero])
    refine wpE_only (i := 21) (oi := { dst := none, op := Go.Op.store 47 (Go.Operand.tmp 2) (Go.Operand.tmp 35), type := 0, pos := "ref.go:114", after := #[{ on := 19, ground := Go.Ground.data }, { on := 18, ground := Go.Ground.chain }, { on := 0, ground := Go.Ground.phase }, { on := 1, ground := Go.Ground.phase }, { on := 2, ground := Go.Ground.phase }, { on := 3, ground := Go.Ground.phase }, { on := 4, ground := Go.Ground.phase }, { on := 5, ground := Go.Ground.phase }, { on := 6, ground := Go.Ground.phase }, { on := 7, ground := Go.Ground.phase }, { on := 8, ground := Go.Ground.phase }, { on := 9, ground := Go.Ground.phase }, { on := 10, ground := Go.Ground.phase }, { on := 11, ground := Go.Ground.phase }, { on := 12, ground := Go.Ground.phase }, { on := 13, ground := Go.Ground.phase }, { on := 14, ground := Go.Ground.phase }, { on := 15, ground := Go.Ground.phase }, { on := 16, ground := Go.Ground.phase }, { on := 17, ground := Go.Ground.phase }, { on := 18, ground := Go.Ground.phase }, { on := 19, ground := Go.Ground.phase }, { on := 20, ground := Go.Ground.phase }], guard := none }) rfl (by kernel_rfl) (by rfl) (fun K hK => ?_)
    go_simp
    refine hK _ _ (by refine ⟨?_, ?_, ?_, ?_⟩ <;> go_simp) ?_; clear hK K
    have hS : (fun (W' : World) => W'.cell? ⟨qe, 2, none⟩ = some (.pointer (some ⟨q, 0, none⟩)) ∧ W'.cell? ⟨qe, 0, none⟩ = some (.int .i64 dev) ∧ W'.cell? ⟨qe, 8, none⟩ = some (.int .u64 (t.rg 40 : Int)) ∧ W'.cell? ⟨qe, 9, none⟩ = some (.int .u64 (t.rg 48 : Int))) ((w2.setCell ⟨w.heap.size, 0, none⟩ (.int .i64 (msgV ms dev (t.rg 40) (t.rg 48)).1)).setCell ⟨w.heap.size, 1, none⟩ (.int .i64 (msgV ms dev (t.rg 40) (t.rg 48)).2)) := by refine ⟨?_, ?_, ?_, ?_⟩ <;> go_simp
    (try simp only [Act.put, List.setIfInBounds_toArray, List.set_cons_succ, List.set_cons_zero])
    refine wpE_last (oi := { dst := some 3, op := Go.Op.assign (Go.Operand.tmp 36), type := 4, pos := "ref.go:114", after := #[{ on := 20, ground := Go.Ground.data }, { on := 21, ground := Go.Ground.chain }, { on := 0, ground := Go.Ground.phase }, { on := 1, ground := Go.Ground.phase }, { on := 2, ground := Go.Ground.phase }, { on := 3, ground := Go.Ground.phase }, { on := 4, ground := Go.Ground.phase }, { on := 5, ground := Go.Ground.phase }, { on := 6, ground := Go.Ground.phase }, { on := 7, ground := Go.Ground.phase }, { on := 8, ground := Go.Ground.phase }, { on := 9, ground := Go.Ground.phase }, { on := 10, ground := Go.Ground.phase }, { on := 11, ground := Go.Ground.phase }, { on := 12, ground := Go.Ground.phase }, { on := 13, ground := Go.Ground.phase }, { on := 14, ground := Go.Ground.phase }, { on := 15, ground := Go.Ground.phase }, { on := 16, ground := Go.Ground.phase }, { on := 17, ground := Go.Ground.phase }, { on := 18, ground := Go.Ground.phase }, { on := 19, ground := Go.Ground.phase }, { on := 20, ground := Go.Ground.phase }, { on := 21, ground := Go.Ground.phase }], guard := none }) rfl (by kernel_rfl) (by kernel_rfl) (by rfl) (fun K hK => ?_)
    go_simp; (try go_bits); refine hK _ _ ?_; clear hK K
    go_wp2
    refine bodyPost_ret (results_cell_tmp_row rfl _ _ w.heap.size 47 #[.int .i64 (msgV ms dev (t.rg 40) (t.rg 48)).1, .int .i64 (msgV ms dev (t.rg 40) (t.rg 48)).2] _ rfl HF.out.2.2 Tryz.underlying47 rfl (by kernel_rfl)) rfl ?_
    exact ⟨rfl, own2, HF.out.1, HF.out.2.1⟩
end
end Go.Proofs.YtonhlgfgbdiapaaGreat

/- Both engines behind IOMMUs: what each call does to them. -/
namespace Go.Proofs.YtonhlgfgbdiapaaGreat
set_option linter.unusedVariables false
set_option linter.unusedSimpArgs false
open Go.RowKit
set_option maxRecDepth 100000
structure PE (w0 : World) (own : Nat → Nat) (w : World) (e qe p q rp tp p2 t2 r : Nat) (dev : Int) (s t : Eg) (a d : Uv) (ms : List To4) : Prop where
  st : Step (· ≠ 0) (fun _ => 0) w0 own w
  pa : PAu own w p rp tp r a
  pd : PDu own w q p2 t2 r d ms
  ia : PU a ms
  id : PU d ms
  eg : EngAt own 60 w e rp (wayT p dev) s
  ok : EgOk s
  r : ErAt own 61 w qe dev (.pointer (some ⟨p2, 0, none⟩)) (.pointer (some ⟨q, 0, none⟩)) t
  k : ErOk t
section
variable {w0 w w' : World} {own own' : Nat → Nat} {e qe p q rp tp p2 t2 r : Nat} {dev : Int} {s t s' t' : Eg} {a d a' d' : Uv} {ms : List To4}
theorem PE.upd (h : PE w0 own w e qe p q rp tp p2 t2 r dev s t a d ms) : Upd (fun _ => False) w0 w := h.st.upd.mono (fun i _ hx => absurd rfl hx)
theorem PE.step {C : Nat → Prop} (h : PE w0 own w e qe p q rp tp p2 t2 r dev s t a d ms) (hS : Step C own w own' w') (hC : ∀ x, C x → x = 50) : PE w0 own' w' e qe p q rp tp p2 t2 r dev s t a d ms :=
  ⟨⟨h.st.upd.trans' hS.upd (fun i hi x => by have := hC _ x; rw [h.st.old i hi] at this; omega), fun b hb => (hS.old b (Nat.lt_of_lt_of_le hb h.st.upd.size)).trans (h.st.old b hb)⟩,
    PA.step h.pa hS (fun x hx => by have := hC _ hx; omega), PD.step h.pd hS (fun x hx => by have := hC _ hx; omega), h.ia, h.id, h.eg.step hS (fun hx => by have := hC _ hx; omega), h.ok, h.r.step hS (fun hx => by have := hC _ hx; omega), h.k⟩
theorem PE.none_ (h : PE w0 own w e qe p q rp tp p2 t2 r dev s t a d ms) (hS : Step (fun _ => False) own w own' w') : PE w0 own' w' e qe p q rp tp p2 t2 r dev s t a d ms := h.step hS (fun _ h => h.elim)
theorem PE.alloc (h : PE w0 own w e qe p q rp tp p2 t2 r dev s t a d ms) (blk : Obj) (d' : Nat) : PE w0 (ext own w d') (w.alloc blk) e qe p q rp tp p2 t2 r dev s t a d ms := h.none_ ⟨(Upd.refl _ _).alloc _, fun b hb => ext_old _ _ _ hb⟩
theorem PE.drew (h : PE w0 own w e qe p q rp tp p2 t2 r dev s t a d ms) : PE w0 own w.drew e qe p q rp tp p2 t2 r dev s t a d ms := h.none_ ((Step.refl _ _ _).drew)
theorem PE.reg4 (h : PE w0 own w e qe p q rp tp p2 t2 r dev s t a d ms) : w.cell? ⟨qe, 7, none⟩ = some (.int .u64 (t.st : Int)) := h.r.cells.2.2.2.2.2.2.1
theorem PE.lt (h : PE w0 own w e qe p q rp tp p2 t2 r dev s t a d ms) : qe < w.heap.size := h.r.1.lt
theorem PE.busy (h : PE w0 own w e qe p q rp tp p2 t2 r dev s t a d ms) : Calls Tryz.prog 13 #[.pointer (some ⟨e, 0, none⟩)] w fun x w' => x = .returned (.bool (decide (s.st = 1))) ∧ w = w' := eng_Busy h.eg
/-- the program's engine has gone on -/
theorem PE.goE (h : PE w0 own w e qe p q rp tp p2 t2 r dev s t a d ms) (hS : Step (· = 60) own w own' w') (hE : EngAt own' 60 w' e rp (wayT p dev) s') (hok : EgOk s') : PE w0 own' w' e qe p q rp tp p2 t2 r dev s' t a d ms :=
  ⟨h.st.trans (hS.mono (by rintro x rfl; decide)), PA.step h.pa hS (fun x hx => by omega), PD.step h.pd hS (fun x hx => by omega), h.ia, h.id, hE, hok, h.r.step hS (by decide), h.k⟩
theorem PE.goD (h : PE w0 own w e qe p q rp tp p2 t2 r dev s t a d ms) (hS : Step (· = 61) own w own' w') (hE : ErAt own' 61 w' qe dev (.pointer (some ⟨p2, 0, none⟩)) (.pointer (some ⟨q, 0, none⟩)) t') (hok : ErOk t') : PE w0 own' w' e qe p q rp tp p2 t2 r dev s t' a d ms :=
  ⟨h.st.trans (hS.mono (by rintro x rfl; decide)), PA.step h.pa hS (fun x hx => by omega), PD.step h.pd hS (fun x hx => by omega), h.ia, h.id, h.eg.step hS (by decide), h.ok, hE, hok⟩
theorem PE.write (h : PE w0 own w e qe p q rp tp p2 t2 r dev s t a d ms) (off : Nat) (hoff : off < 18446744073709551616) (size : Int) (hs : i64B size) (v : Nat) (hv : v < 18446744073709551616) :
    Calls Tryz.prog 11 #[.pointer (some ⟨e, 0, none⟩), .int .u64 (off : Int), .int .i64 size, .int .u64 (v : Int)] w fun x w' => x = .returned (.bool (fitsE off size)) ∧ ∃ own', Step (fun x => x ≠ 0 ∧ x ≠ 50) own w own' w' ∧ PE w0 own' w' e qe p q rp tp p2 t2 r dev (writeE s off size v) t a d ms := by
  refine (eng_Write h.eg h.ok off hoff size hs.1 hs.2 v hv).mono ?_
  rintro x w' ⟨rfl, hS, hE⟩
  exact ⟨rfl, own, hS.mono (by rintro x rfl; decide), h.goE hS hE (h.ok.write off size v hv)⟩
theorem PE.writeD (h : PE w0 own w e qe p q rp tp p2 t2 r dev s t a d ms) (off : Nat) (hoff : off < 18446744073709551616) (size : Int) (hs : i64B size) (v : Nat) (hv : v < 18446744073709551616) (hsim : SimE (writeE s' off size v) (writeD t off size v)) (hok : EgOk (writeE s' off size v)) :
    Calls Tryz.prog 48 #[.pointer (some ⟨qe, 0, none⟩), .int .u64 (off : Int), .int .i64 size, .int .u64 (v : Int)] w fun x w' => x = .returned (.bool (fitsE off size)) ∧ ∃ own', Step (fun x => x ≠ 0 ∧ x ≠ 50) own w own' w' ∧ PE w0 own' w' e qe p q rp tp p2 t2 r dev s (writeD t off size v) a d ms := by
  refine (eref_Write h.r h.k off hoff size hs.1 hs.2 v hv).mono ?_
  rintro x w' ⟨rfl, hS, hE⟩
  exact ⟨rfl, own, hS.mono (by rintro x rfl; decide), h.goD hS hE (hsim.ok hok (writeD_cp h.k.cp off size v))⟩
theorem PE.read (h : PE w0 own w e qe p q rp tp p2 t2 r dev s t a d ms) (off : Nat) (hoff : off < 18446744073709551616) (size : Int) (hs : i64B size) :
    Calls Tryz.prog 12 #[.pointer (some ⟨e, 0, none⟩), .int .u64 (off : Int), .int .i64 size] w fun x w' => x = .returned (.tuple #[.int .u64 (readE s off size : Int), .bool (fitsE off size)]) ∧ ∃ own', Step (fun x => x ≠ 0 ∧ x ≠ 50) own w own' w' ∧ PE w0 own' w' e qe p q rp tp p2 t2 r dev s t a d ms := by
  refine (eng_Read h.eg h.ok off hoff size hs.1 hs.2).mono ?_
  rintro x w' ⟨rfl, own', hS, hE⟩
  exact ⟨rfl, own', hS.mono (by rintro x rfl; decide), h.goE hS hE h.ok⟩
theorem PE.readD (h : PE w0 own w e qe p q rp tp p2 t2 r dev s t a d ms) (off : Nat) (hoff : off < 18446744073709551616) (size : Int) (hs : i64B size) :
    Calls Tryz.prog 49 #[.pointer (some ⟨qe, 0, none⟩), .int .u64 (off : Int), .int .i64 size] w fun x w' => x = .returned (.tuple #[.int .u64 (readE t off size : Int), .bool (fitsE off size)]) ∧ w = w' := eref_Read h.r h.k off hoff size hs.1 hs.2
theorem PE.reset (h : PE w0 own w e qe p q rp tp p2 t2 r dev s t a d ms) :
    Calls Tryz.prog 51 #[.pointer (some ⟨e, 0, none⟩)] w fun x w' => x = .returned (.tuple #[]) ∧ ∃ own', Step (fun x => x ≠ 0 ∧ x ≠ 50) own w own' w' ∧ PE w0 own' w' e qe p q rp tp p2 t2 r dev eg0 t a d ms := by
  refine (eng_Reset h.eg).mono ?_
  rintro x w' ⟨rfl, own', hS, hE⟩
  exact ⟨rfl, own', hS.mono (by rintro x rfl; decide), h.goE hS hE EgOk.init⟩
theorem PE.resetD (h : PE w0 own w e qe p q rp tp p2 t2 r dev s t a d ms) :
    Calls Tryz.prog 52 #[.pointer (some ⟨qe, 0, none⟩)] w fun x w' => x = .returned (.tuple #[]) ∧ ∃ own', Step (fun x => x ≠ 0 ∧ x ≠ 50) own w own' w' ∧ PE w0 own' w' e qe p q rp tp p2 t2 r dev s eg0 a d ms := by
  refine (eref_Reset h.r).mono ?_
  rintro x w' ⟨rfl, hS, hE⟩
  exact ⟨rfl, own, hS.mono (by rintro x rfl; decide), h.goD hS hE ErOk.init⟩
/-- a call of the IOMMU's -/
theorem PE.did {s2 : Us} {m2 : Nat → Int} {l2 : List Tr} {ms2 : List To4} (h : PE w0 own w e qe p q rp tp p2 t2 r dev s t a d ms) (hS : Step (fun x => x ≠ 0 ∧ x < 50) own w own' w') (hA : PA own' w' p rp tp r s2 m2 l2) (hD : PD own' w' q p2 t2 r s2 m2 l2 ms2) (hI : PI s2 l2 ms2) : PE w0 own' w' e qe p q rp tp p2 t2 r dev s t ⟨s2, m2, l2⟩ ⟨s2, m2, l2⟩ ms2 :=
  ⟨h.st.trans (hS.mono (fun x hx => hx.1)), hA, hD, hI, hI, h.eg.step hS (by omega), h.ok, h.r.step hS (by omega), h.k⟩
theorem oA_lt (r : Nat) (dev : Int) (u : Uv) (a : Nat) (wr : Bool) : (accK r dev u a wr).1 < 18446744073709551616 := by
  have : (accK r dev u a wr).1 ≤ 32768 := accA_lt
  omega
theorem vX_eq {r : Nat} {dev : Int} {u : Uv} {s : Eg} (hm : ∀ x, 0 ≤ (u2 r dev u s).m x ∧ (u2 r dev u s).m x < 256) : (rdR 0 8 (u2 r dev u s).m (fA r dev u s : Int) 8).1 = (vX r dev u s : Int) ∧ (vX r dev u s : Int) < 18446744073709551616 := by
  obtain ⟨h0, h1⟩ := rdR_bd 0 8 hm (fA r dev u s : Int)
  have : ((rdR 0 8 (u2 r dev u s).m (fA r dev u s : Int) 8).1.toNat : Int) = (rdR 0 8 (u2 r dev u s).m (fA r dev u s : Int) 8).1 := Int.toNat_of_nonneg h0
  unfold vX
  omega
theorem uSt_ms {r : Nat} {dev : Int} {ms : List To4} {u : Uv} {s : Eg} {i : Nat} (hi : i < 10) : uSt r dev ms u s (i + 10) = msgU ms dev (uSt r dev ms u s i) (s.rg 40) (s.rg 48) := by
  unfold uSt
  rw [if_neg (by omega), if_pos hi, Nat.add_sub_cancel]
theorem atE_lt (o1 o2 : Bool) : atE o1 o2 < 10 := by unfold atE; split <;> (try split) <;> decide
theorem PE.stepE (h : PE w0 own w e qe p q rp tp p2 t2 r dev s t a d ms) :
    Calls Tryz.prog 17 #[.pointer (some ⟨e, 0, none⟩)] w fun x w' => x = .returned (.tuple #[.agg #[.int .i64 (stepT r dev ms a s).1, .int .i64 (stepT r dev ms a s).2.1], .bool (stepT r dev ms a s).2.2]) ∧ ∃ own', Step (fun x => x ≠ 0 ∧ x ≠ 50) own w own' w' ∧ PE w0 own' w' e qe p q rp tp p2 t2 r dev (stepX r dev a s) t (stepU r dev ms a s) d ms := by
  have hP := h.ia
  have key := eng_StepG (c := 60) (V := fun i own w => PAu own w p rp tp r (uSt r dev ms a s i)) (C := fun x => x ≠ 0 ∧ x < 5) (o1 := oA r dev a s) (o2 := oB r dev a s) (f1 := fA r dev a s) (f2 := fB r dev a s) (v := vX r dev a s) (R := fun _ => msgT ms dev (s.rg 40) (s.rg 48)) (ac := 168) (ms := 169) h.eg h.ok
    (fun hs => {
      m1 := thr_m1 p dev, m2 := thr_m2 p dev, c1 := thr_c1, c2 := thr_c2, hC := by omega
      hV := fun i own w own' w' hm hS => PA.step hm hS (fun x hx => by omega)
      b1 := oA_lt _ _ _ _ _, b2 := oA_lt _ _ _ _ _
      bv := by
        have hb : ∀ x, 0 ≤ (u2 r dev a s).m x ∧ (u2 r dev a s).m x < 256 := by
          have hm := h.pa.mm.bd
          have hrec : ∀ (u : Uv) (ad : Nat) (wr : Bool), (∀ x, 0 ≤ u.m x ∧ u.m x < 256) → ∀ x, 0 ≤ (accU r dev u ad wr).m x ∧ (accU r dev u ad wr).m x < 256 := fun u ad wr hu => accMt_bd hu _ _ _
          exact hrec _ _ _ (hrec _ _ _ hm)
        have := (vX_eq hb).2
        omega
      A1 := fun own w hm => by
        refine (thr_access hm hP (plA s) (by unfold plA; omega) false).mono ?_
        rintro x w' ⟨rfl, own', hS, hA⟩
        exact ⟨rfl, own', hS, hA⟩
      A2 := fun _ own w hm => by
        refine (thr_access (ms := ms) hm (hP.st r dev s 1) (plB s) (by unfold plB; omega) true).mono ?_
        rintro x w' ⟨rfl, own', hS, hA⟩
        exact ⟨rfl, own', hS, hA⟩
      rd := fun o1 o2 own w hm => by
        have hm2 : PA own w p rp tp r (u2 r dev a s).s (u2 r dev a s).m (u2 r dev a s).l := hm
        have hb := (oA_lt r dev a (plA s) false)
        refine (ram_Read hm2.mm (fA r dev a s : Int) 8 (by omega) (by unfold fA; omega) (by decide) (by decide)).mono ?_
        rintro x w' ⟨rfl, k, rfl⟩
        exact ⟨_, by rw [(vX_eq hm2.mm.bd).1], own, (Step.refl _ _ _).drewN k, PA.step hm ((Step.refl (fun _ => False) _ _).drewN k) (fun x h => h.elim)⟩
      wr := fun o1 o2 own w hm => by
        have hm2 : PA own w p rp tp r (u2 r dev a s).s (u2 r dev a s).m (u2 r dev a s).l := hm
        have hb := (oA_lt r dev (u1 r dev a s) (plB s) true)
        refine (ram_Write hm2.mm (fB r dev a s : Int) 8 (vX r dev a s : Int) (by omega) (by unfold fB; omega) (by decide) (by decide) (by omega) (vX_eq hm2.mm.bd).2).mono ?_
        rintro x w' ⟨rfl, own', hS, hM⟩
        exact ⟨_, rfl, own', hS.mono (by rintro x rfl; decide), hm2.u.step hS (by decide), hM, hm2.t.step hS (by decide) (by decide)⟩
      ms := fun i hi own w hm => by
        have hl := atE_lt (oA r dev a s) (oB r dev a s)
        refine (thr_message (ms := ms) hm (hP.st r dev s i) (s.rg 40) (s.rg 48) (h.ok.rg _)).mono ?_
        rintro x w' ⟨rfl, own', hS, hA⟩
        refine ⟨rfl, own', hS, ?_⟩
        show PAu own' w' p rp tp r (uSt r dev ms a s (i + 10))
        rw [uSt_ms (by omega)]; exact hA }) (fun i own w own' w' hm hS => PA.step hm hS (fun x hx => by omega)) h.pa
  refine key.mono ?_
  rintro x w' ⟨rfl, own', hS, hE, hm⟩
  have hS2 : Step (fun x => x ≠ 0 ∧ x ≠ 50) own w own' w' := hS.mono (fun x hx => by omega)
  exact ⟨rfl, own', hS2, h.st.trans (hS2.mono (fun x hx => hx.1)), hm, PD.step h.pd hS (fun x hx => by omega), hP.st r dev s _, h.id, hE, h.ok.next _ _, h.r.step hS (by omega), h.k⟩
theorem PE.stepD (h : PE w0 own w e qe p q rp tp p2 t2 r dev s t a d ms) (hms : ms.length < 4398046511104) (hsim : SimE (stepX r dev d s') (stepX r dev d t)) (hok : EgOk (stepX r dev d s')) :
    Calls Tryz.prog 50 #[.pointer (some ⟨qe, 0, none⟩)] w fun x w' => x = .returned (.tuple #[.agg #[.int .i64 (stepT r dev ms d t).1, .int .i64 (stepT r dev ms d t).2.1], .bool (stepT r dev ms d t).2.2]) ∧ ∃ own', Step (fun x => x ≠ 0 ∧ x ≠ 50) own w own' w' ∧ PE w0 own' w' e qe p q rp tp p2 t2 r dev s (stepX r dev d t) a (stepU r dev ms d t) ms := by
  have hP := h.id
  have key := eref_StepG (c := 61) (V := fun i own w => PDu own w q p2 t2 r (uSt r dev ms d t i) ms) (C := fun x => 4 < x ∧ x < 13) (o1 := oA r dev d t) (o2 := oB r dev d t) (f1 := fA r dev d t) (f2 := fB r dev d t) (v := vX r dev d t) (R := fun _ => msgT ms dev (t.rg 40) (t.rg 48)) h.r h.k
    (fun hs => {
      hC := by omega
      b1 := oA_lt _ _ _ _ _, b2 := oA_lt _ _ _ _ _
      bv := by
        have hb : ∀ x, 0 ≤ (u2 r dev d t).m x ∧ (u2 r dev d t).m x < 256 := by
          have hm := h.pd.mr.bd
          have hrec : ∀ (u : Uv) (ad : Nat) (wr : Bool), (∀ x, 0 ≤ u.m x ∧ u.m x < 256) → ∀ x, 0 ≤ (accU r dev u ad wr).m x ∧ (accU r dev u ad wr).m x < 256 := fun u ad wr hu => accMt_bd hu _ _ _
          exact hrec _ _ _ (hrec _ _ _ hm)
        have := (vX_eq hb).2
        omega
      A1 := fun own w he hm => by
        refine (eref_accessU he hm hP (plA t) (by unfold plA; omega) false).mono ?_
        rintro x w' ⟨rfl, own', hS, hA⟩
        exact ⟨rfl, own', hS, hA⟩
      A2 := fun _ own w he hm => by
        refine (eref_accessU he hm (hP.st r dev t 1) (plB t) (by unfold plB; omega) true).mono ?_
        rintro x w' ⟨rfl, own', hS, hA⟩
        exact ⟨rfl, own', hS, hA⟩
      rd := fun o1 o2 own w hm => by
        have hm2 : PD own w q p2 t2 r (u2 r dev d t).s (u2 r dev d t).m (u2 r dev d t).l ms := hm
        have hb := (oA_lt r dev d (plA t) false)
        refine (mref_Read hm2.mr (fA r dev d t : Int) 8 (by omega) (by unfold fA; omega) (by decide) (by decide)).mono ?_
        rintro x w' ⟨rfl, rfl⟩
        exact ⟨_, by rw [(vX_eq hm2.mr.bd).1], own, Step.refl _ _ _, hm⟩
      wr := fun o1 o2 own w hm => by
        have hm2 : PD own w q p2 t2 r (u2 r dev d t).s (u2 r dev d t).m (u2 r dev d t).l ms := hm
        have hb := (oA_lt r dev (u1 r dev d t) (plB t) true)
        refine (mref_Write hm2.mr (fB r dev d t : Int) 8 (vX r dev d t : Int) (by omega) (by unfold fB; omega) (by decide) (by decide) (by omega) (vX_eq hm2.mr.bd).2).mono ?_
        rintro x w' ⟨rfl, own', hS, hM⟩
        exact ⟨_, rfl, own', hS.mono (by rintro x rfl; decide), hM, hm2.ur.step hS (by decide) (by decide), hm2.tr.step hS (by decide) (by decide)⟩
      ms := fun i hi t' ht own w he hm => by
        have hl := atE_lt (oA r dev d t) (oB r dev d t)
        refine (eref_messageU he (fun k => by rw [ht]; exact h.k.rg k) hm (hP.st r dev t i) hms).mono ?_
        rintro x w' ⟨rfl, own', hS, hA⟩
        rw [ht] at hA ⊢
        refine ⟨rfl, own', hS, ?_⟩
        by_cases h4 : t.rg 40 = 0
        · rw [if_pos h4] at hA ⊢; exact hA
        · rw [if_neg h4] at hA ⊢
          show PDu own' w' q p2 t2 r (uSt r dev ms d t (i + 10)) ms
          rw [uSt_ms (by omega)]; exact hA }) (fun i own w own' w' hm hS => PD.step hm hS (fun x hx => by omega)) h.pd
  refine key.mono ?_
  rintro x w' ⟨rfl, own', hS, hE, hm⟩
  have hS2 : Step (fun x => x ≠ 0 ∧ x ≠ 50) own w own' w' := hS.mono (fun x hx => by omega)
  exact ⟨rfl, own', hS2, h.st.trans (hS2.mono (fun x hx => hx.1)), PA.step h.pa hS (fun x hx => by omega), hm, h.ia, hP.st r dev t _, h.eg.step hS (by omega), h.ok, hE, hsim.ok hok (nextE_cp h.k _ _)⟩
end
end Go.Proofs.YtonhlgfgbdiapaaGreat

/- citadellaw08.play behind IOMMUs. -/
namespace Go.Proofs.YtonhlgfgbdiapaaGreat
set_option linter.unusedVariables false
set_option linter.unusedSimpArgs false
open Go.RowKit
set_option maxRecDepth 100000
set_option maxHeartbeats 8000000 in
theorem play_P {w0 w : World} {own : Nat → Nat} {e qe p q rp tp p2 t2 r : Nat} {dev : Int} {s0 t0 : Eg} {u0 : Uv} (h : PE w0 own w e qe p q rp tp p2 t2 r dev s0 t0 u0 u0 []) (hs0 : SimE s0 t0) (A : Option Addr) (cap : Nat) (L : List Op8) (hL : Ops8At w0 (.slice A L.length cap) L) (hLb : ∀ o ∈ L, Op8B o) (hLl : L.length ≤ 2199023255488) :
    Calls Tryz.prog 22 #[.pointer (some ⟨e, 0, none⟩), .pointer (some ⟨qe, 0, none⟩), .agg #[.pointer (some ⟨p, 0, none⟩), .pointer (some ⟨q, 0, none⟩), .pointer (some ⟨rp, 0, none⟩), .pointer (some ⟨p2, 0, none⟩)], .bool false, .slice A L.length cap] w fun x w' => x = .returned (.bool true) ∧ ∃ own' s t u ms, Step (fun x => x ≠ 0 ∧ x ≠ 50) own w own' w' ∧ PE w0 own' w' e qe p q rp tp p2 t2 r dev s t u u ms ∧ SimE s t := by
  have HL := Lib.hid (And.intro hL hLb)
  have H0 := Lib.hid (show ∃ own' s t u ms, Step (fun x => x ≠ 0 ∧ x ≠ 50) own w own' (w.alloc (.cells #[.pointer (some ⟨p, 0, none⟩), .pointer (some ⟨q, 0, none⟩), .pointer (some ⟨rp, 0, none⟩), .pointer (some ⟨p2, 0, none⟩)] 36)) ∧ PE w0 own' (w.alloc (.cells #[.pointer (some ⟨p, 0, none⟩), .pointer (some ⟨q, 0, none⟩), .pointer (some ⟨rp, 0, none⟩), .pointer (some ⟨p2, 0, none⟩)] 36)) e qe p q rp tp p2 t2 r dev s t u u ms ∧ SimE s t ∧ ms.length ≤ 0 ∧ (Blk (w.alloc (.cells #[.pointer (some ⟨p, 0, none⟩), .pointer (some ⟨q, 0, none⟩), .pointer (some ⟨rp, 0, none⟩), .pointer (some ⟨p2, 0, none⟩)] 36)) w.heap.size 36 #[.pointer (some ⟨p, 0, none⟩), .pointer (some ⟨q, 0, none⟩), .pointer (some ⟨rp, 0, none⟩), .pointer (some ⟨p2, 0, none⟩)] ∧ own' w.heap.size = 50) from ⟨ext own w 50, s0, t0, u0, [], ⟨(Upd.refl _ _).alloc _, fun b hb => ext_old _ _ _ hb⟩, h.alloc _ 50, hs0, Nat.le_refl _, Blk.new w _ _, ext_new _ _ _ (Nat.le_refl _)⟩)
  clear hL hLb h hs0
  go_enter Tryz.func22, Tryz.ntmps22
  go_wp2
  obtain ⟨ob, hob0⟩ : ∃ ob, w.heap.size = ob := ⟨_, rfl⟩
  rw [hob0] at H0 ⊢
  clear hob0
  go_loopw [11] (fun i wr => ∃ (j : Nat), i = .int .i64 (j : Int) ∧ j ≤ L.length ∧ Hid (∃ own' s t u ms, Step (fun x => x ≠ 0 ∧ x ≠ 50) own w own' wr ∧ PE w0 own' wr e qe p q rp tp p2 t2 r dev s t u u ms ∧ SimE s t ∧ ms.length ≤ j ∧ (Blk wr ob 36 #[.pointer (some ⟨p, 0, none⟩), .pointer (some ⟨q, 0, none⟩), .pointer (some ⟨rp, 0, none⟩), .pointer (some ⟨p2, 0, none⟩)] ∧ own' ob = 50))) (fun i _ => L.length - (intOf i).toNat)
  case atStart => exact ⟨0, rfl, by omega, H0.out⟩
  case round =>
    rename World => wr
    obtain ⟨j, rfl, hj, HR⟩ := hrel
    clear H0
    by_cases hlt : j < L.length
    · have hlt' : (j : Int) < (L.length : Int) := by omega
      obtain ⟨own1, s, t, u, ms, hS1, hD1, hsim, hmsl, hO1⟩ := HR.out
      have hget : L[j]? = some L[j] := List.getElem?_eq_getElem hlt
      have hob := HL.out.2 _ (List.getElem_mem hlt)
      obtain ⟨g, o, rfl, hg, c0, c1, c2, c3, c4, c5, c6, c7, c8, c9, c10, c11⟩ := (HL.out.1.upd hD1.upd).cells hget
      generalize L[j] = x at *
      obtain ⟨xk, xz, xo, xv, yk, yd, ys, ya, yv, yw, yg, yq⟩ := x
      obtain ⟨hbk, hbz, hbo, hbv, hbx⟩ := hob
      simp only [] at c0 c1 c2 c3 c4 c5 c6 c7 c8 c9 c10 c11 hbk hbz hbo hbv hbx
      have hSa : Step (fun _ => False) own1 wr (ext own1 wr 50) (wr.alloc (.cells #[.int .i64 xk, .int .i64 xz, .int .u64 (xo : Int), .int .u64 (xv : Int), .int .i64 yk, .int .i64 yd, .int .i64 ys, .int .u64 (ya : Int), .int .u64 (yv : Int), .bool yw, .int .i64 yg, .int .i64 yq] 51)) := ⟨(Upd.refl _ _).alloc _, fun b hb => ext_old _ _ _ hb⟩
      have hD2 := hD1.none_ hSa
      have hO2 := hSa.blk hO1.1 hO1.2 (fun h => h)
      have hX : Blk (wr.alloc (.cells #[.int .i64 xk, .int .i64 xz, .int .u64 (xo : Int), .int .u64 (xv : Int), .int .i64 yk, .int .i64 yd, .int .i64 ys, .int .u64 (ya : Int), .int .u64 (yv : Int), .bool yw, .int .i64 yg, .int .i64 yq] 51)) wr.heap.size 51 #[.int .i64 xk, .int .i64 xz, .int .u64 (xo : Int), .int .u64 (xv : Int), .int .i64 yk, .int .i64 yd, .int .i64 ys, .int .u64 (ya : Int), .int .u64 (yv : Int), .bool yw, .int .i64 yg, .int .i64 yq] ∧ ext own1 wr 50 wr.heap.size = 50 := ⟨Blk.new wr _ _, ext_new _ _ _ (Nat.le_refl _)⟩
      obtain ⟨kk, hkk⟩ : ∃ kk : Nat, xk % 5 = (kk : Int) := ⟨(xk % 5).toNat, by omega⟩
      have hk5 : kk < 5 := by omega
      have P1 := fun w => place_calls xk 5 w hbk.1 hbk.2 (by decide) (by decide)
      rw [hkk] at P1
      have HP1 := Lib.hid P1
      have H2 := Lib.hid (And.intro (hS1.trans (hSa.mono (fun _ h => h.elim))) (And.intro hD2 (And.intro hsim (And.intro hX (And.intro hO2 hmsl)))))
      clear hS1 hD1 hsim hget hSa hD2 hX hkk P1 HR hO1 hO2 hmsl
      go_wp2_with fail
      generalize wr.alloc (.cells #[.int .i64 xk, .int .i64 xz, .int .u64 (xo : Int), .int .u64 (xv : Int), .int .i64 yk, .int .i64 yd, .int .i64 ys, .int .u64 (ya : Int), .int .u64 (yv : Int), .bool yw, .int .i64 yg, .int .i64 yq] 51) = w2 at *
      generalize ext own1 wr 50 = own2 at *
      generalize wr.heap.size = xb at *
      ((with_reducible refine (HP1.out _).mono ?_); rintro y wz ⟨rfl, rfl⟩)
      clear HP1 hbk
      have hX := H2.out.2.2.2.1
      have x1 := hX.1.cell 1
      have x2 := hX.1.cell 2
      have x3 := hX.1.cell 3
      simp only [List.getElem?_toArray, List.getElem?_cons_zero, List.getElem?_cons_succ] at x1 x2 x3
      clear c0 c1 c2 c3 c4 c5 c6 c7 c8 c9 c10 c11
      rcases (show kk = 0 ∨ kk = 1 ∨ kk = 2 ∨ kk = 3 ∨ kk = 4 by omega) with rfl | rfl | rfl | rfl | rfl
      · have hD := H2.out.2.1.drew
        have hok2 := hD.ok.write xo xz xv hbv
        have hsim2 := H2.out.2.2.1.write xo xz xv
        have HW := Lib.hid (hD.write xo hbo xz hbz xv hbv)
        have HS := Lib.hid (And.intro hok2 hsim2)
        clear hD hok2 hsim2 hX
        go_wp2_with fail
        refine wpE_region (S := fun (W' : World) => W'.cell? ⟨xb, 1, none⟩ = some (.int .i64 xz) ∧ W'.cell? ⟨xb, 2, none⟩ = some (.int .u64 (xo : Int)) ∧ W'.cell? ⟨xb, 3, none⟩ = some (.int .u64 (xv : Int))) (s := 16) (by kernel_rfl) ?_
        have hS : (fun (W' : World) => W'.cell? ⟨xb, 1, none⟩ = some (.int .i64 xz) ∧ W'.cell? ⟨xb, 2, none⟩ = some (.int .u64 (xo : Int)) ∧ W'.cell? ⟨xb, 3, none⟩ = some (.int .u64 (xv : Int))) _ := ⟨x1, x2, x3⟩
        refine wpE_take (i := 0) (oi := { dst := some 36, op := Go.Op.move (Go.Operand.tmp 0), type := 42, pos := "law.go:41", after := #[], guard := none }) (v := ?_) rfl (by kernel_rfl) (fun _ _ _ h => h) (Or.inl ⟨by rfl, fun W hW => ?_⟩) hS ?_
        rotate_left
        · obtain ⟨hw1, hw2, hw3⟩ := hW; go_simp; (try go_bits); (try rw [if_pos (by omega)]); (try with_reducible rfl)
        (try simp only [Act.put, List.setIfInBounds_toArray, List.set_cons_succ, List.set_cons_zero])
        refine wpE_take (i := 1) (oi := { dst := some 37, op := Go.Op.fieldAddr 51 (Go.Operand.tmp 12) 2, type := 0, pos := "law.go:41", after := #[], guard := none }) (v := ?_) rfl (by kernel_rfl) (fun _ _ _ h => h) (Or.inl ⟨by rfl, fun W hW => ?_⟩) hS ?_
        rotate_left
        · obtain ⟨hw1, hw2, hw3⟩ := hW; go_simp; (try go_bits); (try rw [if_pos (by omega)]); (try with_reducible rfl)
        (try simp only [Act.put, List.setIfInBounds_toArray, List.set_cons_succ, List.set_cons_zero])
        refine wpE_take (i := 2) (oi := { dst := some 38, op := Go.Op.load 23 (Go.Operand.tmp 37), type := 23, pos := "law.go:41", after := #[{ on := 1, ground := Go.Ground.data }], guard := none }) (v := ?_) rfl (by kernel_rfl) (fun _ _ _ h => h) (Or.inl ⟨by rfl, fun W hW => ?_⟩) hS ?_
        rotate_left
        · obtain ⟨hw1, hw2, hw3⟩ := hW; go_simp; (try go_bits); (try rw [if_pos (by omega)]); (try with_reducible rfl)
        (try simp only [Act.put, List.setIfInBounds_toArray, List.set_cons_succ, List.set_cons_zero])
        refine wpE_take (i := 3) (oi := { dst := some 39, op := Go.Op.fieldAddr 51 (Go.Operand.tmp 12) 1, type := 0, pos := "law.go:41", after := #[], guard := none }) (v := ?_) rfl (by kernel_rfl) (fun _ _ _ h => h) (Or.inl ⟨by rfl, fun W hW => ?_⟩) hS ?_
        rotate_left
        · obtain ⟨hw1, hw2, hw3⟩ := hW; go_simp; (try go_bits); (try rw [if_pos (by omega)]); (try with_reducible rfl)
        (try simp only [Act.put, List.setIfInBounds_toArray, List.set_cons_succ, List.set_cons_zero])
        refine wpE_take (i := 4) (oi := { dst := some 40, op := Go.Op.load 3 (Go.Operand.tmp 39), type := 3, pos := "law.go:41", after := #[{ on := 3, ground := Go.Ground.data }], guard := none }) (v := ?_) rfl (by kernel_rfl) (fun _ _ _ h => h) (Or.inl ⟨by rfl, fun W hW => ?_⟩) hS ?_
        rotate_left
        · obtain ⟨hw1, hw2, hw3⟩ := hW; go_simp; (try go_bits); (try rw [if_pos (by omega)]); (try with_reducible rfl)
        (try simp only [Act.put, List.setIfInBounds_toArray, List.set_cons_succ, List.set_cons_zero])
        refine wpE_take (i := 5) (oi := { dst := some 41, op := Go.Op.fieldAddr 51 (Go.Operand.tmp 12) 3, type := 0, pos := "law.go:41", after := #[], guard := none }) (v := ?_) rfl (by kernel_rfl) (fun _ _ _ h => h) (Or.inl ⟨by rfl, fun W hW => ?_⟩) hS ?_
        rotate_left
        · obtain ⟨hw1, hw2, hw3⟩ := hW; go_simp; (try go_bits); (try rw [if_pos (by omega)]); (try with_reducible rfl)
        (try simp only [Act.put, List.setIfInBounds_toArray, List.set_cons_succ, List.set_cons_zero])
        refine wpE_take (i := 6) (oi := { dst := some 42, op := Go.Op.load 23 (Go.Operand.tmp 41), type := 23, pos := "law.go:41", after := #[{ on := 5, ground := Go.Ground.data }], guard := none }) (v := ?_) rfl (by kernel_rfl) (fun _ _ _ h => h) (Or.inl ⟨by rfl, fun W hW => ?_⟩) hS ?_
        rotate_left
        · obtain ⟨hw1, hw2, hw3⟩ := hW; go_simp; (try go_bits); (try rw [if_pos (by omega)]); (try with_reducible rfl)
        (try simp only [Act.put, List.setIfInBounds_toArray, List.set_cons_succ, List.set_cons_zero])
        refine wpE_take (i := 8) (oi := { dst := some 44, op := Go.Op.move (Go.Operand.tmp 1), type := 71, pos := "law.go:41", after := #[], guard := none }) (v := ?_) rfl (by kernel_rfl) (fun _ _ _ h => h) (Or.inl ⟨by rfl, fun W hW => ?_⟩) hS ?_
        rotate_left
        · obtain ⟨hw1, hw2, hw3⟩ := hW; go_simp; (try go_bits); (try rw [if_pos (by omega)]); (try with_reducible rfl)
        (try simp only [Act.put, List.setIfInBounds_toArray, List.set_cons_succ, List.set_cons_zero])
        refine wpE_take (i := 9) (oi := { dst := some 45, op := Go.Op.fieldAddr 51 (Go.Operand.tmp 12) 2, type := 0, pos := "law.go:41", after := #[], guard := none }) (v := ?_) rfl (by kernel_rfl) (fun _ _ _ h => h) (Or.inl ⟨by rfl, fun W hW => ?_⟩) hS ?_
        rotate_left
        · obtain ⟨hw1, hw2, hw3⟩ := hW; go_simp; (try go_bits); (try rw [if_pos (by omega)]); (try with_reducible rfl)
        (try simp only [Act.put, List.setIfInBounds_toArray, List.set_cons_succ, List.set_cons_zero])
        refine wpE_take (i := 10) (oi := { dst := some 46, op := Go.Op.load 23 (Go.Operand.tmp 45), type := 23, pos := "law.go:41", after := #[{ on := 9, ground := Go.Ground.data }], guard := none }) (v := ?_) rfl (by kernel_rfl) (fun _ _ _ h => h) (Or.inl ⟨by rfl, fun W hW => ?_⟩) hS ?_
        rotate_left
        · obtain ⟨hw1, hw2, hw3⟩ := hW; go_simp; (try go_bits); (try rw [if_pos (by omega)]); (try with_reducible rfl)
        (try simp only [Act.put, List.setIfInBounds_toArray, List.set_cons_succ, List.set_cons_zero])
        refine wpE_take (i := 11) (oi := { dst := some 47, op := Go.Op.fieldAddr 51 (Go.Operand.tmp 12) 1, type := 0, pos := "law.go:41", after := #[], guard := none }) (v := ?_) rfl (by kernel_rfl) (fun _ _ _ h => h) (Or.inl ⟨by rfl, fun W hW => ?_⟩) hS ?_
        rotate_left
        · obtain ⟨hw1, hw2, hw3⟩ := hW; go_simp; (try go_bits); (try rw [if_pos (by omega)]); (try with_reducible rfl)
        (try simp only [Act.put, List.setIfInBounds_toArray, List.set_cons_succ, List.set_cons_zero])
        refine wpE_take (i := 12) (oi := { dst := some 48, op := Go.Op.load 3 (Go.Operand.tmp 47), type := 3, pos := "law.go:41", after := #[{ on := 11, ground := Go.Ground.data }], guard := none }) (v := ?_) rfl (by kernel_rfl) (fun _ _ _ h => h) (Or.inl ⟨by rfl, fun W hW => ?_⟩) hS ?_
        rotate_left
        · obtain ⟨hw1, hw2, hw3⟩ := hW; go_simp; (try go_bits); (try rw [if_pos (by omega)]); (try with_reducible rfl)
        (try simp only [Act.put, List.setIfInBounds_toArray, List.set_cons_succ, List.set_cons_zero])
        refine wpE_take (i := 13) (oi := { dst := some 49, op := Go.Op.fieldAddr 51 (Go.Operand.tmp 12) 3, type := 0, pos := "law.go:41", after := #[], guard := none }) (v := ?_) rfl (by kernel_rfl) (fun _ _ _ h => h) (Or.inl ⟨by rfl, fun W hW => ?_⟩) hS ?_
        rotate_left
        · obtain ⟨hw1, hw2, hw3⟩ := hW; go_simp; (try go_bits); (try rw [if_pos (by omega)]); (try with_reducible rfl)
        (try simp only [Act.put, List.setIfInBounds_toArray, List.set_cons_succ, List.set_cons_zero])
        refine wpE_take (i := 14) (oi := { dst := some 50, op := Go.Op.load 23 (Go.Operand.tmp 49), type := 23, pos := "law.go:41", after := #[{ on := 13, ground := Go.Ground.data }], guard := none }) (v := ?_) rfl (by kernel_rfl) (fun _ _ _ h => h) (Or.inl ⟨by rfl, fun W hW => ?_⟩) hS ?_
        rotate_left
        · obtain ⟨hw1, hw2, hw3⟩ := hW; go_simp; (try go_bits); (try rw [if_pos (by omega)]); (try with_reducible rfl)
        (try simp only [Act.put, List.setIfInBounds_toArray, List.set_cons_succ, List.set_cons_zero])
        refine wpE_only (i := 7) (oi := { dst := some 43, op := Go.Op.call { callee := Go.Callee.value (Go.Operand.func 11), args := #[Go.Operand.tmp 36, Go.Operand.tmp 38, Go.Operand.tmp 40, Go.Operand.tmp 42], argTypes := #[42, 23, 3, 23] }, type := 4, pos := "law.go:41", after := #[{ on := 0, ground := Go.Ground.data }, { on := 2, ground := Go.Ground.data }, { on := 4, ground := Go.Ground.data }, { on := 6, ground := Go.Ground.data }], guard := none }) rfl (by kernel_rfl) (by rfl) (fun K hK => ?_)
        go_simp; refine HW.out.mono ?_; rintro y w3 ⟨rfl, own3, hS3, hD3⟩
        have hS3d := ((Step.refl (fun x => x ≠ 0 ∧ x ≠ 50) own2 w2).drew).trans hS3
        have hX3 := hS3d.blk H2.out.2.2.2.1.1 H2.out.2.2.2.1.2 (by decide)
        have hO3 := hS3d.blk H2.out.2.2.2.2.1.1 H2.out.2.2.2.2.1.2 (by decide)
        have x1 := hX3.1.cell 1
        have x2 := hX3.1.cell 2
        have x3 := hX3.1.cell 3
        simp only [List.getElem?_toArray, List.getElem?_cons_zero, List.getElem?_cons_succ] at x1 x2 x3
        have HW2 := Lib.hid (hD3.writeD xo hbo xz hbz xv hbv HS.out.2 HS.out.1)
        have H3 := Lib.hid (And.intro (H2.out.1.trans hS3d) (And.intro hX3 (And.intro hO3 H2.out.2.2.2.2.2)))
        have hS : (fun (W' : World) => W'.cell? ⟨xb, 1, none⟩ = some (.int .i64 xz) ∧ W'.cell? ⟨xb, 2, none⟩ = some (.int .u64 (xo : Int)) ∧ W'.cell? ⟨xb, 3, none⟩ = some (.int .u64 (xv : Int))) w3 := ⟨x1, x2, x3⟩
        clear HW H2 hS3 hX3 hD3 x1 x2 x3 hS3d hO3
        refine hK _ _ hS ?_; clear hK K
        (try simp only [Act.put, List.setIfInBounds_toArray, List.set_cons_succ, List.set_cons_zero])
        refine wpE_only (i := 15) (oi := { dst := some 51, op := Go.Op.call { callee := Go.Callee.value (Go.Operand.func 48), args := #[Go.Operand.tmp 44, Go.Operand.tmp 46, Go.Operand.tmp 48, Go.Operand.tmp 50], argTypes := #[71, 23, 3, 23] }, type := 4, pos := "law.go:41", after := #[{ on := 8, ground := Go.Ground.data }, { on := 10, ground := Go.Ground.data }, { on := 12, ground := Go.Ground.data }, { on := 14, ground := Go.Ground.data }, { on := 7, ground := Go.Ground.chain }], guard := none }) rfl (by kernel_rfl) (by rfl) (fun K hK => ?_)
        go_simp; refine HW2.out.mono ?_; rintro y w4 ⟨rfl, own4, hS4, hD4⟩
        have hX4 := hS4.blk H3.out.2.1.1 H3.out.2.1.2 (by decide)
        have hO4 := hS4.blk H3.out.2.2.1.1 H3.out.2.2.1.2 (by decide)
        have x1 := hX4.1.cell 1
        have x2 := hX4.1.cell 2
        have x3 := hX4.1.cell 3
        simp only [List.getElem?_toArray, List.getElem?_cons_zero, List.getElem?_cons_succ] at x1 x2 x3
        have hS : (fun (W' : World) => W'.cell? ⟨xb, 1, none⟩ = some (.int .i64 xz) ∧ W'.cell? ⟨xb, 2, none⟩ = some (.int .u64 (xo : Int)) ∧ W'.cell? ⟨xb, 3, none⟩ = some (.int .u64 (xv : Int))) w4 := ⟨x1, x2, x3⟩
        have H4 := Lib.hid (And.intro (H3.out.1.trans hS4) (And.intro hD4 (And.intro hO4 H3.out.2.2.2)))
        clear HW2 H3 hS4 hD4 hX4 x1 x2 x3 hO4
        refine hK _ _ hS ?_; clear hK K
        (try simp only [Act.put, List.setIfInBounds_toArray, List.set_cons_succ, List.set_cons_zero])
        refine wpE_last (oi := { dst := some 52, op := Go.Op.binOp Go.BinOp.neq 4 (Go.Operand.tmp 43) (Go.Operand.tmp 51) 4, type := 4, pos := "law.go:41", after := #[{ on := 7, ground := Go.Ground.data }, { on := 15, ground := Go.Ground.data }], guard := none }) rfl (by kernel_rfl) (by kernel_rfl) (by rfl) (fun K hK => ?_)
        go_simp; (try go_bits); refine hK _ _ ?_; clear hK K
        clear hS
        obtain ⟨hS, hD, hO, hml⟩ := H4.out
        have hms9 : ms.length ≤ j + 1 := by omega
        have hsim := HS.out.2
        clear H4 HS hml
        generalize writeE s xo xz xv = s9 at *
        generalize writeD t xo xz xv = t9 at *
        have hb : ((t9.st : Int) == 1) = decide (s9.st = 1) := by
          rw [← hsim.st]
          by_cases h : s9.st = 1
          · rw [decide_eq_true h, h]; rfl
          · rw [decide_eq_false h]; simp; omega
        have hDd := hD.drew
        have hSd := hS.trans ((Step.refl (fun x => x ≠ 0 ∧ x ≠ 50) _ _).drew)
        have hOd := ((Step.refl (fun x => x ≠ 0 ∧ x ≠ 50) _ _).drew).blk hO.1 hO.2 (by decide)
        have HBu := Lib.hid hDd.busy
        have r4 := hDd.reg4
        have hlq := hDd.lt
        have H9 := Lib.hid (show ∃ own' s t u ms, Step (fun x => x ≠ 0 ∧ x ≠ 50) own w own' w4.drew ∧ PE w0 own' w4.drew e qe p q rp tp p2 t2 r dev s t u u ms ∧ SimE s t ∧ ms.length ≤ j + 1 ∧ (Blk w4.drew ob 36 #[.pointer (some ⟨p, 0, none⟩), .pointer (some ⟨q, 0, none⟩), .pointer (some ⟨rp, 0, none⟩), .pointer (some ⟨p2, 0, none⟩)] ∧ own' ob = 50) from ⟨_, _, _, _, _, hSd, hDd, hsim, hms9, hOd⟩)
        obtain ⟨BB, hBB⟩ : ∃ BB, decide (s9.st = 1) = BB := ⟨_, rfl⟩
        rw [hBB] at hb HBu
        clear hD hDd hS hSd hsim hBB hO hOd hms9
        go_wp2_with fail
        refine wpE_region (S := fun (W' : World) => W'.cell? ⟨qe, 7, none⟩ = some (.int .u64 (t9.st : Int))) (s := 8) (by kernel_rfl) ?_
        have hS : (fun (W' : World) => W'.cell? ⟨qe, 7, none⟩ = some (.int .u64 (t9.st : Int))) _ := r4
        refine wpE_take (i := 0) (oi := { dst := some 118, op := Go.Op.move (Go.Operand.tmp 0), type := 42, pos := "law.go:64", after := #[], guard := none }) (v := ?_) rfl (by kernel_rfl) (fun _ _ _ h => h) (Or.inl ⟨by rfl, fun W hW => ?_⟩) hS ?_
        rotate_left
        · (have hw1 : W.cell? ⟨qe, 7, none⟩ = some (.int .u64 (t9.st : Int)) := hW); go_simp; (try go_bits); (try rw [if_pos (by omega)]); (try with_reducible rfl)
        (try simp only [Act.put, List.setIfInBounds_toArray, List.set_cons_succ, List.set_cons_zero])
        refine wpE_take (i := 2) (oi := { dst := some 120, op := Go.Op.move (Go.Operand.tmp 1), type := 71, pos := "law.go:64", after := #[], guard := none }) (v := ?_) rfl (by kernel_rfl) (fun _ _ _ h => h) (Or.inl ⟨by rfl, fun W hW => ?_⟩) hS ?_
        rotate_left
        · (have hw1 : W.cell? ⟨qe, 7, none⟩ = some (.int .u64 (t9.st : Int)) := hW); go_simp; (try go_bits); (try rw [if_pos (by omega)]); (try with_reducible rfl)
        (try simp only [Act.put, List.setIfInBounds_toArray, List.set_cons_succ, List.set_cons_zero])
        refine wpE_take (i := 3) (oi := { dst := some 121, op := Go.Op.nilCheck (Go.Operand.tmp 120), type := 0, pos := "law.go:64", after := #[{ on := 2, ground := Go.Ground.data }], guard := none }) (v := ?_) rfl (by kernel_rfl) (fun _ _ _ h => h) (Or.inl ⟨by rfl, fun W hW => ?_⟩) hS ?_
        rotate_left
        · (have hw1 : W.cell? ⟨qe, 7, none⟩ = some (.int .u64 (t9.st : Int)) := hW); go_simp; (try go_bits); (try rw [if_pos (by omega)]); (try with_reducible rfl)
        (try simp only [Act.put, List.setIfInBounds_toArray, List.set_cons_succ, List.set_cons_zero])
        refine wpE_take (i := 4) (oi := { dst := some 122, op := Go.Op.fieldAddr 74 (Go.Operand.tmp 121) 3, type := 0, pos := "law.go:64", after := #[{ on := 3, ground := Go.Ground.data }], guard := none }) (v := ?_) rfl (by kernel_rfl) (fun _ _ _ h => h) (Or.inl ⟨by rfl, fun W hW => ?_⟩) hS ?_
        rotate_left
        · (have hw1 : W.cell? ⟨qe, 7, none⟩ = some (.int .u64 (t9.st : Int)) := hW); go_simp; (try go_bits); (try rw [if_pos (by omega)]); (try with_reducible rfl)
        (try simp only [Act.put, List.setIfInBounds_toArray, List.set_cons_succ, List.set_cons_zero])
        refine wpE_take (i := 5) (oi := { dst := some 123, op := Go.Op.indexAddr 72 (Go.Operand.tmp 122) (Go.Operand.const (Go.Value.int Go.IntKind.i64 4)), type := 0, pos := "law.go:64", after := #[{ on := 4, ground := Go.Ground.data }], guard := none }) (v := ?_) rfl (by kernel_rfl) (fun _ _ _ h => h) (Or.inl ⟨by rfl, fun W hW => ?_⟩) hS ?_
        rotate_left
        · (have hw1 : W.cell? ⟨qe, 7, none⟩ = some (.int .u64 (t9.st : Int)) := hW); go_simp; (try go_bits); (try rw [if_pos (by omega)]); (try with_reducible rfl)
        (try simp only [Act.put, List.setIfInBounds_toArray, List.set_cons_succ, List.set_cons_zero])
        refine wpE_take (i := 6) (oi := { dst := some 124, op := Go.Op.load 23 (Go.Operand.tmp 123), type := 23, pos := "law.go:64", after := #[{ on := 5, ground := Go.Ground.data }], guard := none }) (v := ?_) rfl (by kernel_rfl) (fun _ _ _ h => h) (Or.inl ⟨by rfl, fun W hW => ?_⟩) hS ?_
        rotate_left
        · (have hw1 : W.cell? ⟨qe, 7, none⟩ = some (.int .u64 (t9.st : Int)) := hW); go_simp; (try go_bits); (try rw [if_pos (by omega)]); (try with_reducible rfl)
        (try simp only [Act.put, List.setIfInBounds_toArray, List.set_cons_succ, List.set_cons_zero])
        refine wpE_take (i := 7) (oi := { dst := some 125, op := Go.Op.binOp Go.BinOp.eql 23 (Go.Operand.tmp 124) (Go.Operand.const (Go.Value.int Go.IntKind.u64 1)) 23, type := 4, pos := "law.go:64", after := #[{ on := 6, ground := Go.Ground.data }], guard := none }) (v := ?_) rfl (by kernel_rfl) (fun _ _ _ h => h) (Or.inl ⟨by rfl, fun W hW => ?_⟩) hS ?_
        rotate_left
        · (have hw1 : W.cell? ⟨qe, 7, none⟩ = some (.int .u64 (t9.st : Int)) := hW); go_simp; (try go_bits); (try rw [if_pos (by omega)]); (try with_reducible rfl)
        (try simp only [Act.put, List.setIfInBounds_toArray, List.set_cons_succ, List.set_cons_zero])
        refine wpE_only (i := 1) (oi := { dst := some 119, op := Go.Op.call { callee := Go.Callee.value (Go.Operand.func 13), args := #[Go.Operand.tmp 118], argTypes := #[42] }, type := 4, pos := "law.go:64", after := #[{ on := 0, ground := Go.Ground.data }], guard := none }) rfl (by kernel_rfl) (by rfl) (fun K hK => ?_)
        go_simp; refine HBu.out.mono ?_; rintro y wz ⟨rfl, rfl⟩; refine hK _ _ hS ?_; clear hK K
        (try simp only [Act.put, List.setIfInBounds_toArray, List.set_cons_succ, List.set_cons_zero])
        refine wpE_last (oi := { dst := some 126, op := Go.Op.binOp Go.BinOp.neq 4 (Go.Operand.tmp 119) (Go.Operand.tmp 125) 4, type := 4, pos := "law.go:64", after := #[{ on := 1, ground := Go.Ground.data }, { on := 7, ground := Go.Ground.data }], guard := none }) rfl (by kernel_rfl) (by kernel_rfl) (by rfl) (fun K hK => ?_)
        go_simp; (try go_bits); refine hK _ _ ?_; clear hK K
        go_wp2
        exact ⟨⟨j + 1, by go_num, by omega, H9.out⟩, by simp [intOf]; omega⟩
      · have HR1 := Lib.hid (H2.out.2.1.read xo hbo xz hbz)
        clear hX
        go_wp2_with fail
        ((with_reducible refine HR1.out.mono ?_); rintro y w3 ⟨rfl, own3, hS3, hD3⟩)
        have hX3 := hS3.blk H2.out.2.2.2.1.1 H2.out.2.2.2.1.2 (by decide)
        have hO3 := hS3.blk H2.out.2.2.2.2.1.1 H2.out.2.2.2.2.1.2 (by decide)
        have x1' := hX3.1.cell 1
        have x2' := hX3.1.cell 2
        simp only [List.getElem?_toArray, List.getElem?_cons_zero, List.getElem?_cons_succ] at x1' x2'
        have hR2 := hD3.readD xo hbo xz hbz
        rw [← H2.out.2.2.1.read] at hR2
        have HR2 := Lib.hid hR2
        have H3 := Lib.hid (And.intro (H2.out.1.trans hS3) (And.intro hD3 (And.intro H2.out.2.2.1 (And.intro hO3 H2.out.2.2.2.2.2))))
        clear HR1 hS3 hD3 hX3 hR2 H2 x1 x2 x3 hO3
        go_wp2_with fail
        ((with_reducible refine HR2.out.mono ?_); rintro y wz ⟨rfl, rfl⟩)
        clear HR2
        obtain ⟨hS, hD, hsim, hO, hml⟩ := H3.out
        have hms9 : ms.length ≤ j + 1 := by omega
        clear H3 x1' x2' hml
        generalize readE s xo xz = RV at *
        generalize s = s9 at *
        generalize t = t9 at *
        have hb : ((t9.st : Int) == 1) = decide (s9.st = 1) := by
          rw [← hsim.st]
          by_cases h : s9.st = 1
          · rw [decide_eq_true h, h]; rfl
          · rw [decide_eq_false h]; simp; omega
        have hDd := hD.drew
        have hSd := hS.trans ((Step.refl (fun x => x ≠ 0 ∧ x ≠ 50) _ _).drew)
        have hOd := ((Step.refl (fun x => x ≠ 0 ∧ x ≠ 50) _ _).drew).blk hO.1 hO.2 (by decide)
        have HBu := Lib.hid hDd.busy
        have r4 := hDd.reg4
        have hlq := hDd.lt
        have H9 := Lib.hid (show ∃ own' s t u ms, Step (fun x => x ≠ 0 ∧ x ≠ 50) own w own' w3.drew ∧ PE w0 own' w3.drew e qe p q rp tp p2 t2 r dev s t u u ms ∧ SimE s t ∧ ms.length ≤ j + 1 ∧ (Blk w3.drew ob 36 #[.pointer (some ⟨p, 0, none⟩), .pointer (some ⟨q, 0, none⟩), .pointer (some ⟨rp, 0, none⟩), .pointer (some ⟨p2, 0, none⟩)] ∧ own' ob = 50) from ⟨_, _, _, _, _, hSd, hDd, hsim, hms9, hOd⟩)
        obtain ⟨BB, hBB⟩ : ∃ BB, decide (s9.st = 1) = BB := ⟨_, rfl⟩
        rw [hBB] at hb HBu
        clear hD hDd hS hSd hsim hBB hO hOd hms9
        go_wp2_with fail
        refine wpE_region (S := fun (W' : World) => W'.cell? ⟨qe, 7, none⟩ = some (.int .u64 (t9.st : Int))) (s := 8) (by kernel_rfl) ?_
        have hS : (fun (W' : World) => W'.cell? ⟨qe, 7, none⟩ = some (.int .u64 (t9.st : Int))) _ := r4
        refine wpE_take (i := 0) (oi := { dst := some 118, op := Go.Op.move (Go.Operand.tmp 0), type := 42, pos := "law.go:64", after := #[], guard := none }) (v := ?_) rfl (by kernel_rfl) (fun _ _ _ h => h) (Or.inl ⟨by rfl, fun W hW => ?_⟩) hS ?_
        rotate_left
        · (have hw1 : W.cell? ⟨qe, 7, none⟩ = some (.int .u64 (t9.st : Int)) := hW); go_simp; (try go_bits); (try rw [if_pos (by omega)]); (try with_reducible rfl)
        (try simp only [Act.put, List.setIfInBounds_toArray, List.set_cons_succ, List.set_cons_zero])
        refine wpE_take (i := 2) (oi := { dst := some 120, op := Go.Op.move (Go.Operand.tmp 1), type := 71, pos := "law.go:64", after := #[], guard := none }) (v := ?_) rfl (by kernel_rfl) (fun _ _ _ h => h) (Or.inl ⟨by rfl, fun W hW => ?_⟩) hS ?_
        rotate_left
        · (have hw1 : W.cell? ⟨qe, 7, none⟩ = some (.int .u64 (t9.st : Int)) := hW); go_simp; (try go_bits); (try rw [if_pos (by omega)]); (try with_reducible rfl)
        (try simp only [Act.put, List.setIfInBounds_toArray, List.set_cons_succ, List.set_cons_zero])
        refine wpE_take (i := 3) (oi := { dst := some 121, op := Go.Op.nilCheck (Go.Operand.tmp 120), type := 0, pos := "law.go:64", after := #[{ on := 2, ground := Go.Ground.data }], guard := none }) (v := ?_) rfl (by kernel_rfl) (fun _ _ _ h => h) (Or.inl ⟨by rfl, fun W hW => ?_⟩) hS ?_
        rotate_left
        · (have hw1 : W.cell? ⟨qe, 7, none⟩ = some (.int .u64 (t9.st : Int)) := hW); go_simp; (try go_bits); (try rw [if_pos (by omega)]); (try with_reducible rfl)
        (try simp only [Act.put, List.setIfInBounds_toArray, List.set_cons_succ, List.set_cons_zero])
        refine wpE_take (i := 4) (oi := { dst := some 122, op := Go.Op.fieldAddr 74 (Go.Operand.tmp 121) 3, type := 0, pos := "law.go:64", after := #[{ on := 3, ground := Go.Ground.data }], guard := none }) (v := ?_) rfl (by kernel_rfl) (fun _ _ _ h => h) (Or.inl ⟨by rfl, fun W hW => ?_⟩) hS ?_
        rotate_left
        · (have hw1 : W.cell? ⟨qe, 7, none⟩ = some (.int .u64 (t9.st : Int)) := hW); go_simp; (try go_bits); (try rw [if_pos (by omega)]); (try with_reducible rfl)
        (try simp only [Act.put, List.setIfInBounds_toArray, List.set_cons_succ, List.set_cons_zero])
        refine wpE_take (i := 5) (oi := { dst := some 123, op := Go.Op.indexAddr 72 (Go.Operand.tmp 122) (Go.Operand.const (Go.Value.int Go.IntKind.i64 4)), type := 0, pos := "law.go:64", after := #[{ on := 4, ground := Go.Ground.data }], guard := none }) (v := ?_) rfl (by kernel_rfl) (fun _ _ _ h => h) (Or.inl ⟨by rfl, fun W hW => ?_⟩) hS ?_
        rotate_left
        · (have hw1 : W.cell? ⟨qe, 7, none⟩ = some (.int .u64 (t9.st : Int)) := hW); go_simp; (try go_bits); (try rw [if_pos (by omega)]); (try with_reducible rfl)
        (try simp only [Act.put, List.setIfInBounds_toArray, List.set_cons_succ, List.set_cons_zero])
        refine wpE_take (i := 6) (oi := { dst := some 124, op := Go.Op.load 23 (Go.Operand.tmp 123), type := 23, pos := "law.go:64", after := #[{ on := 5, ground := Go.Ground.data }], guard := none }) (v := ?_) rfl (by kernel_rfl) (fun _ _ _ h => h) (Or.inl ⟨by rfl, fun W hW => ?_⟩) hS ?_
        rotate_left
        · (have hw1 : W.cell? ⟨qe, 7, none⟩ = some (.int .u64 (t9.st : Int)) := hW); go_simp; (try go_bits); (try rw [if_pos (by omega)]); (try with_reducible rfl)
        (try simp only [Act.put, List.setIfInBounds_toArray, List.set_cons_succ, List.set_cons_zero])
        refine wpE_take (i := 7) (oi := { dst := some 125, op := Go.Op.binOp Go.BinOp.eql 23 (Go.Operand.tmp 124) (Go.Operand.const (Go.Value.int Go.IntKind.u64 1)) 23, type := 4, pos := "law.go:64", after := #[{ on := 6, ground := Go.Ground.data }], guard := none }) (v := ?_) rfl (by kernel_rfl) (fun _ _ _ h => h) (Or.inl ⟨by rfl, fun W hW => ?_⟩) hS ?_
        rotate_left
        · (have hw1 : W.cell? ⟨qe, 7, none⟩ = some (.int .u64 (t9.st : Int)) := hW); go_simp; (try go_bits); (try rw [if_pos (by omega)]); (try with_reducible rfl)
        (try simp only [Act.put, List.setIfInBounds_toArray, List.set_cons_succ, List.set_cons_zero])
        refine wpE_only (i := 1) (oi := { dst := some 119, op := Go.Op.call { callee := Go.Callee.value (Go.Operand.func 13), args := #[Go.Operand.tmp 118], argTypes := #[42] }, type := 4, pos := "law.go:64", after := #[{ on := 0, ground := Go.Ground.data }], guard := none }) rfl (by kernel_rfl) (by rfl) (fun K hK => ?_)
        go_simp; refine HBu.out.mono ?_; rintro y wz ⟨rfl, rfl⟩; refine hK _ _ hS ?_; clear hK K
        (try simp only [Act.put, List.setIfInBounds_toArray, List.set_cons_succ, List.set_cons_zero])
        refine wpE_last (oi := { dst := some 126, op := Go.Op.binOp Go.BinOp.neq 4 (Go.Operand.tmp 119) (Go.Operand.tmp 125) 4, type := 4, pos := "law.go:64", after := #[{ on := 1, ground := Go.Ground.data }, { on := 7, ground := Go.Ground.data }], guard := none }) rfl (by kernel_rfl) (by kernel_rfl) (by rfl) (fun K hK => ?_)
        go_simp; (try go_bits); refine hK _ _ ?_; clear hK K
        go_wp2
        exact ⟨⟨j + 1, by go_num, by omega, H9.out⟩, by simp [intOf]; omega⟩
      · obtain ⟨hsim2, hUU, hTT⟩ := H2.out.2.2.1.stepX r dev ms u
        have hok2 : EgOk (stepX r dev u s) := H2.out.2.1.ok.next _ _
        have HS1 := Lib.hid H2.out.2.1.stepE
        have HS := Lib.hid (And.intro hsim2 (And.intro hUU (And.intro hTT hok2)))
        clear hsim2 hUU hTT hok2 hX
        go_wp2_with fail
        ((with_reducible refine HS1.out.mono ?_); rintro y w3 ⟨rfl, own3, hS3, hD3⟩)
        have hSb : Step (fun x => x ≠ 0 ∧ x ≠ 50) own3 w3 (ext own3 w3 50) (w3.alloc (.cells #[.int .i64 (stepT r dev ms u s).1, .int .i64 (stepT r dev ms u s).2.1] 47)) := ⟨(Upd.refl _ _).alloc _, fun b hb => ext_old _ _ _ hb⟩
        have hB3 := Blk.new w3 47 #[.int .i64 (stepT r dev ms u s).1, .int .i64 (stepT r dev ms u s).2.1]
        have ho3 : ext own3 w3 50 w3.heap.size = 50 := ext_new _ _ _ (Nat.le_refl _)
        have hD3b := hD3.alloc (.cells #[.int .i64 (stepT r dev ms u s).1, .int .i64 (stepT r dev ms u s).2.1] 47) 50
        have hO3 := (hS3.trans hSb).blk H2.out.2.2.2.2.1.1 H2.out.2.2.2.2.1.2 (by decide)
        have hS2 := hD3b.stepD (by have := H2.out.2.2.2.2.2; omega) HS.out.1 HS.out.2.2.2
        rw [← HS.out.2.2.1] at hS2
        have HS2 := Lib.hid hS2
        have H3 := Lib.hid (And.intro ((H2.out.1.trans hS3).trans hSb) (And.intro (And.intro hB3 ho3) (And.intro hO3 H2.out.2.2.2.2.2)))
        clear HS1 hS3 hD3 hSb hB3 ho3 hD3b hS2 H2 x1 x2 x3 hO3
        obtain ⟨R3, hR3⟩ : ∃ R3, stepT r dev ms u s = R3 := ⟨_, rfl⟩
        rw [hR3] at H3 HS2 ⊢
        clear hR3
        go_wp2_with fail
        ((with_reducible refine HS2.out.mono ?_); rintro y w4 ⟨rfl, own4, hS4, hD4⟩)
        have hX4 := hS4.blk H3.out.2.1.1 H3.out.2.1.2 (by decide)
        have hSb : Step (fun x => x ≠ 0 ∧ x ≠ 50) own4 w4 (ext own4 w4 50) (w4.alloc (.cells #[.int .i64 R3.1, .int .i64 R3.2.1] 47)) := ⟨(Upd.refl _ _).alloc _, fun b hb => ext_old _ _ _ hb⟩
        have hB4 := Blk.new w4 47 #[.int .i64 R3.1, .int .i64 R3.2.1]
        have hX5 := hSb.blk hX4.1 hX4.2 (by decide)
        have hO := (hS4.trans hSb).blk H3.out.2.2.1.1 H3.out.2.2.1.2 (by decide)
        have hD := hD4.alloc (.cells #[.int .i64 R3.1, .int .i64 R3.2.1] 47) 50
        rw [← HS.out.2.1] at hD
        have hS := (H3.out.1.trans hS4).trans hSb
        have hsim := HS.out.1
        have hms9 : ms.length ≤ j + 1 := by have := H3.out.2.2.2; omega
        have y0 := hX5.1.cell 0
        have y1 := hX5.1.cell 1
        have z0 := hB4.cell 0
        have z1 := hB4.cell 1
        simp only [List.getElem?_toArray, List.getElem?_cons_zero, List.getElem?_cons_succ] at y0 y1 z0 z1
        clear HS2 hS4 hD4 hX4 hSb hB4 hX5 H3 HS
        generalize hw5 : w4.alloc (.cells #[.int .i64 R3.1, .int .i64 R3.2.1] 47) = w5 at *
        generalize ext own4 w4 50 = own5 at *
        generalize stepX r dev u s = s9 at *
        generalize stepU r dev ms u s = u9 at *
        generalize stepX r dev u t = t9 at *
        have hb : ((t9.st : Int) == 1) = decide (s9.st = 1) := by
          rw [← hsim.st]
          by_cases h : s9.st = 1
          · rw [decide_eq_true h, h]; rfl
          · rw [decide_eq_false h]; simp; omega
        have hDd := hD.drew
        have hSd := hS.trans ((Step.refl (fun x => x ≠ 0 ∧ x ≠ 50) _ _).drew)
        have hOd := ((Step.refl (fun x => x ≠ 0 ∧ x ≠ 50) _ _).drew).blk hO.1 hO.2 (by decide)
        have HBu := Lib.hid hDd.busy
        have r4 := hDd.reg4
        have hlq := hDd.lt
        have H9 := Lib.hid (show ∃ own' s t u ms, Step (fun x => x ≠ 0 ∧ x ≠ 50) own w own' w5.drew ∧ PE w0 own' w5.drew e qe p q rp tp p2 t2 r dev s t u u ms ∧ SimE s t ∧ ms.length ≤ j + 1 ∧ (Blk w5.drew ob 36 #[.pointer (some ⟨p, 0, none⟩), .pointer (some ⟨q, 0, none⟩), .pointer (some ⟨rp, 0, none⟩), .pointer (some ⟨p2, 0, none⟩)] ∧ own' ob = 50) from ⟨_, _, _, _, _, hSd, hDd, hsim, hms9, hOd⟩)
        obtain ⟨BB, hBB⟩ : ∃ BB, decide (s9.st = 1) = BB := ⟨_, rfl⟩
        rw [hBB] at hb HBu
        clear hD hDd hS hSd hsim hBB hO hOd hms9
        go_wp2_with fail
        refine wpE_region (S := fun (W' : World) => W'.cell? ⟨qe, 7, none⟩ = some (.int .u64 (t9.st : Int))) (s := 8) (by kernel_rfl) ?_
        have hS : (fun (W' : World) => W'.cell? ⟨qe, 7, none⟩ = some (.int .u64 (t9.st : Int))) _ := r4
        refine wpE_take (i := 0) (oi := { dst := some 118, op := Go.Op.move (Go.Operand.tmp 0), type := 42, pos := "law.go:64", after := #[], guard := none }) (v := ?_) rfl (by kernel_rfl) (fun _ _ _ h => h) (Or.inl ⟨by rfl, fun W hW => ?_⟩) hS ?_
        rotate_left
        · (have hw1 : W.cell? ⟨qe, 7, none⟩ = some (.int .u64 (t9.st : Int)) := hW); go_simp; (try go_bits); (try rw [if_pos (by omega)]); (try with_reducible rfl)
        (try simp only [Act.put, List.setIfInBounds_toArray, List.set_cons_succ, List.set_cons_zero])
        refine wpE_take (i := 2) (oi := { dst := some 120, op := Go.Op.move (Go.Operand.tmp 1), type := 71, pos := "law.go:64", after := #[], guard := none }) (v := ?_) rfl (by kernel_rfl) (fun _ _ _ h => h) (Or.inl ⟨by rfl, fun W hW => ?_⟩) hS ?_
        rotate_left
        · (have hw1 : W.cell? ⟨qe, 7, none⟩ = some (.int .u64 (t9.st : Int)) := hW); go_simp; (try go_bits); (try rw [if_pos (by omega)]); (try with_reducible rfl)
        (try simp only [Act.put, List.setIfInBounds_toArray, List.set_cons_succ, List.set_cons_zero])
        refine wpE_take (i := 3) (oi := { dst := some 121, op := Go.Op.nilCheck (Go.Operand.tmp 120), type := 0, pos := "law.go:64", after := #[{ on := 2, ground := Go.Ground.data }], guard := none }) (v := ?_) rfl (by kernel_rfl) (fun _ _ _ h => h) (Or.inl ⟨by rfl, fun W hW => ?_⟩) hS ?_
        rotate_left
        · (have hw1 : W.cell? ⟨qe, 7, none⟩ = some (.int .u64 (t9.st : Int)) := hW); go_simp; (try go_bits); (try rw [if_pos (by omega)]); (try with_reducible rfl)
        (try simp only [Act.put, List.setIfInBounds_toArray, List.set_cons_succ, List.set_cons_zero])
        refine wpE_take (i := 4) (oi := { dst := some 122, op := Go.Op.fieldAddr 74 (Go.Operand.tmp 121) 3, type := 0, pos := "law.go:64", after := #[{ on := 3, ground := Go.Ground.data }], guard := none }) (v := ?_) rfl (by kernel_rfl) (fun _ _ _ h => h) (Or.inl ⟨by rfl, fun W hW => ?_⟩) hS ?_
        rotate_left
        · (have hw1 : W.cell? ⟨qe, 7, none⟩ = some (.int .u64 (t9.st : Int)) := hW); go_simp; (try go_bits); (try rw [if_pos (by omega)]); (try with_reducible rfl)
        (try simp only [Act.put, List.setIfInBounds_toArray, List.set_cons_succ, List.set_cons_zero])
        refine wpE_take (i := 5) (oi := { dst := some 123, op := Go.Op.indexAddr 72 (Go.Operand.tmp 122) (Go.Operand.const (Go.Value.int Go.IntKind.i64 4)), type := 0, pos := "law.go:64", after := #[{ on := 4, ground := Go.Ground.data }], guard := none }) (v := ?_) rfl (by kernel_rfl) (fun _ _ _ h => h) (Or.inl ⟨by rfl, fun W hW => ?_⟩) hS ?_
        rotate_left
        · (have hw1 : W.cell? ⟨qe, 7, none⟩ = some (.int .u64 (t9.st : Int)) := hW); go_simp; (try go_bits); (try rw [if_pos (by omega)]); (try with_reducible rfl)
        (try simp only [Act.put, List.setIfInBounds_toArray, List.set_cons_succ, List.set_cons_zero])
        refine wpE_take (i := 6) (oi := { dst := some 124, op := Go.Op.load 23 (Go.Operand.tmp 123), type := 23, pos := "law.go:64", after := #[{ on := 5, ground := Go.Ground.data }], guard := none }) (v := ?_) rfl (by kernel_rfl) (fun _ _ _ h => h) (Or.inl ⟨by rfl, fun W hW => ?_⟩) hS ?_
        rotate_left
        · (have hw1 : W.cell? ⟨qe, 7, none⟩ = some (.int .u64 (t9.st : Int)) := hW); go_simp; (try go_bits); (try rw [if_pos (by omega)]); (try with_reducible rfl)
        (try simp only [Act.put, List.setIfInBounds_toArray, List.set_cons_succ, List.set_cons_zero])
        refine wpE_take (i := 7) (oi := { dst := some 125, op := Go.Op.binOp Go.BinOp.eql 23 (Go.Operand.tmp 124) (Go.Operand.const (Go.Value.int Go.IntKind.u64 1)) 23, type := 4, pos := "law.go:64", after := #[{ on := 6, ground := Go.Ground.data }], guard := none }) (v := ?_) rfl (by kernel_rfl) (fun _ _ _ h => h) (Or.inl ⟨by rfl, fun W hW => ?_⟩) hS ?_
        rotate_left
        · (have hw1 : W.cell? ⟨qe, 7, none⟩ = some (.int .u64 (t9.st : Int)) := hW); go_simp; (try go_bits); (try rw [if_pos (by omega)]); (try with_reducible rfl)
        (try simp only [Act.put, List.setIfInBounds_toArray, List.set_cons_succ, List.set_cons_zero])
        refine wpE_only (i := 1) (oi := { dst := some 119, op := Go.Op.call { callee := Go.Callee.value (Go.Operand.func 13), args := #[Go.Operand.tmp 118], argTypes := #[42] }, type := 4, pos := "law.go:64", after := #[{ on := 0, ground := Go.Ground.data }], guard := none }) rfl (by kernel_rfl) (by rfl) (fun K hK => ?_)
        go_simp; refine HBu.out.mono ?_; rintro y wz ⟨rfl, rfl⟩; refine hK _ _ hS ?_; clear hK K
        (try simp only [Act.put, List.setIfInBounds_toArray, List.set_cons_succ, List.set_cons_zero])
        refine wpE_last (oi := { dst := some 126, op := Go.Op.binOp Go.BinOp.neq 4 (Go.Operand.tmp 119) (Go.Operand.tmp 125) 4, type := 4, pos := "law.go:64", after := #[{ on := 1, ground := Go.Ground.data }, { on := 7, ground := Go.Ground.data }], guard := none }) rfl (by kernel_rfl) (by kernel_rfl) (by rfl) (fun K hK => ?_)
        go_simp; (try go_bits); refine hK _ _ ?_; clear hK K
        go_wp2
        exact ⟨⟨j + 1, by go_num, by omega, H9.out⟩, by simp [intOf]; omega⟩
      · have HR1 := Lib.hid H2.out.2.1.reset
        clear hX
        go_wp2_with fail
        ((with_reducible refine HR1.out.mono ?_); rintro y w3 ⟨rfl, own3, hS3, hD3⟩)
        have HR2 := Lib.hid hD3.resetD
        have hO3 := hS3.blk H2.out.2.2.2.2.1.1 H2.out.2.2.2.2.1.2 (by decide)
        have H3 := Lib.hid (And.intro (H2.out.1.trans hS3) (And.intro hO3 H2.out.2.2.2.2.2))
        clear HR1 hS3 hD3 H2 x1 x2 x3 hO3
        go_wp2_with fail
        ((with_reducible refine HR2.out.mono ?_); rintro y w4 ⟨rfl, own4, hS4, hD⟩)
        have hS := H3.out.1.trans hS4
        have hO := hS4.blk H3.out.2.1.1 H3.out.2.1.2 (by decide)
        have hms9 : ms.length ≤ j + 1 := by have := H3.out.2.2; omega
        have hsim := SimE.init
        clear HR2 H3 hS4
        generalize hs9 : eg0 = s9 at *
        have hb : ((s9.st : Int) == 1) = decide (s9.st = 1) := by
          rw [← hsim.st]
          by_cases h : s9.st = 1
          · rw [decide_eq_true h, h]; rfl
          · rw [decide_eq_false h]; simp; omega
        have hDd := hD.drew
        have hSd := hS.trans ((Step.refl (fun x => x ≠ 0 ∧ x ≠ 50) _ _).drew)
        have hOd := ((Step.refl (fun x => x ≠ 0 ∧ x ≠ 50) _ _).drew).blk hO.1 hO.2 (by decide)
        have HBu := Lib.hid hDd.busy
        have r4 := hDd.reg4
        have hlq := hDd.lt
        have H9 := Lib.hid (show ∃ own' s t u ms, Step (fun x => x ≠ 0 ∧ x ≠ 50) own w own' w4.drew ∧ PE w0 own' w4.drew e qe p q rp tp p2 t2 r dev s t u u ms ∧ SimE s t ∧ ms.length ≤ j + 1 ∧ (Blk w4.drew ob 36 #[.pointer (some ⟨p, 0, none⟩), .pointer (some ⟨q, 0, none⟩), .pointer (some ⟨rp, 0, none⟩), .pointer (some ⟨p2, 0, none⟩)] ∧ own' ob = 50) from ⟨_, _, _, _, _, hSd, hDd, hsim, hms9, hOd⟩)
        obtain ⟨BB, hBB⟩ : ∃ BB, decide (s9.st = 1) = BB := ⟨_, rfl⟩
        rw [hBB] at hb HBu
        clear hD hDd hS hSd hsim hBB hO hOd hms9
        go_wp2_with fail
        refine wpE_region (S := fun (W' : World) => W'.cell? ⟨qe, 7, none⟩ = some (.int .u64 (s9.st : Int))) (s := 8) (by kernel_rfl) ?_
        have hS : (fun (W' : World) => W'.cell? ⟨qe, 7, none⟩ = some (.int .u64 (s9.st : Int))) _ := r4
        refine wpE_take (i := 0) (oi := { dst := some 118, op := Go.Op.move (Go.Operand.tmp 0), type := 42, pos := "law.go:64", after := #[], guard := none }) (v := ?_) rfl (by kernel_rfl) (fun _ _ _ h => h) (Or.inl ⟨by rfl, fun W hW => ?_⟩) hS ?_
        rotate_left
        · (have hw1 : W.cell? ⟨qe, 7, none⟩ = some (.int .u64 (s9.st : Int)) := hW); go_simp; (try go_bits); (try rw [if_pos (by omega)]); (try with_reducible rfl)
        (try simp only [Act.put, List.setIfInBounds_toArray, List.set_cons_succ, List.set_cons_zero])
        refine wpE_take (i := 2) (oi := { dst := some 120, op := Go.Op.move (Go.Operand.tmp 1), type := 71, pos := "law.go:64", after := #[], guard := none }) (v := ?_) rfl (by kernel_rfl) (fun _ _ _ h => h) (Or.inl ⟨by rfl, fun W hW => ?_⟩) hS ?_
        rotate_left
        · (have hw1 : W.cell? ⟨qe, 7, none⟩ = some (.int .u64 (s9.st : Int)) := hW); go_simp; (try go_bits); (try rw [if_pos (by omega)]); (try with_reducible rfl)
        (try simp only [Act.put, List.setIfInBounds_toArray, List.set_cons_succ, List.set_cons_zero])
        refine wpE_take (i := 3) (oi := { dst := some 121, op := Go.Op.nilCheck (Go.Operand.tmp 120), type := 0, pos := "law.go:64", after := #[{ on := 2, ground := Go.Ground.data }], guard := none }) (v := ?_) rfl (by kernel_rfl) (fun _ _ _ h => h) (Or.inl ⟨by rfl, fun W hW => ?_⟩) hS ?_
        rotate_left
        · (have hw1 : W.cell? ⟨qe, 7, none⟩ = some (.int .u64 (s9.st : Int)) := hW); go_simp; (try go_bits); (try rw [if_pos (by omega)]); (try with_reducible rfl)
        (try simp only [Act.put, List.setIfInBounds_toArray, List.set_cons_succ, List.set_cons_zero])
        refine wpE_take (i := 4) (oi := { dst := some 122, op := Go.Op.fieldAddr 74 (Go.Operand.tmp 121) 3, type := 0, pos := "law.go:64", after := #[{ on := 3, ground := Go.Ground.data }], guard := none }) (v := ?_) rfl (by kernel_rfl) (fun _ _ _ h => h) (Or.inl ⟨by rfl, fun W hW => ?_⟩) hS ?_
        rotate_left
        · (have hw1 : W.cell? ⟨qe, 7, none⟩ = some (.int .u64 (s9.st : Int)) := hW); go_simp; (try go_bits); (try rw [if_pos (by omega)]); (try with_reducible rfl)
        (try simp only [Act.put, List.setIfInBounds_toArray, List.set_cons_succ, List.set_cons_zero])
        refine wpE_take (i := 5) (oi := { dst := some 123, op := Go.Op.indexAddr 72 (Go.Operand.tmp 122) (Go.Operand.const (Go.Value.int Go.IntKind.i64 4)), type := 0, pos := "law.go:64", after := #[{ on := 4, ground := Go.Ground.data }], guard := none }) (v := ?_) rfl (by kernel_rfl) (fun _ _ _ h => h) (Or.inl ⟨by rfl, fun W hW => ?_⟩) hS ?_
        rotate_left
        · (have hw1 : W.cell? ⟨qe, 7, none⟩ = some (.int .u64 (s9.st : Int)) := hW); go_simp; (try go_bits); (try rw [if_pos (by omega)]); (try with_reducible rfl)
        (try simp only [Act.put, List.setIfInBounds_toArray, List.set_cons_succ, List.set_cons_zero])
        refine wpE_take (i := 6) (oi := { dst := some 124, op := Go.Op.load 23 (Go.Operand.tmp 123), type := 23, pos := "law.go:64", after := #[{ on := 5, ground := Go.Ground.data }], guard := none }) (v := ?_) rfl (by kernel_rfl) (fun _ _ _ h => h) (Or.inl ⟨by rfl, fun W hW => ?_⟩) hS ?_
        rotate_left
        · (have hw1 : W.cell? ⟨qe, 7, none⟩ = some (.int .u64 (s9.st : Int)) := hW); go_simp; (try go_bits); (try rw [if_pos (by omega)]); (try with_reducible rfl)
        (try simp only [Act.put, List.setIfInBounds_toArray, List.set_cons_succ, List.set_cons_zero])
        refine wpE_take (i := 7) (oi := { dst := some 125, op := Go.Op.binOp Go.BinOp.eql 23 (Go.Operand.tmp 124) (Go.Operand.const (Go.Value.int Go.IntKind.u64 1)) 23, type := 4, pos := "law.go:64", after := #[{ on := 6, ground := Go.Ground.data }], guard := none }) (v := ?_) rfl (by kernel_rfl) (fun _ _ _ h => h) (Or.inl ⟨by rfl, fun W hW => ?_⟩) hS ?_
        rotate_left
        · (have hw1 : W.cell? ⟨qe, 7, none⟩ = some (.int .u64 (s9.st : Int)) := hW); go_simp; (try go_bits); (try rw [if_pos (by omega)]); (try with_reducible rfl)
        (try simp only [Act.put, List.setIfInBounds_toArray, List.set_cons_succ, List.set_cons_zero])
        refine wpE_only (i := 1) (oi := { dst := some 119, op := Go.Op.call { callee := Go.Callee.value (Go.Operand.func 13), args := #[Go.Operand.tmp 118], argTypes := #[42] }, type := 4, pos := "law.go:64", after := #[{ on := 0, ground := Go.Ground.data }], guard := none }) rfl (by kernel_rfl) (by rfl) (fun K hK => ?_)
        go_simp; refine HBu.out.mono ?_; rintro y wz ⟨rfl, rfl⟩; refine hK _ _ hS ?_; clear hK K
        (try simp only [Act.put, List.setIfInBounds_toArray, List.set_cons_succ, List.set_cons_zero])
        refine wpE_last (oi := { dst := some 126, op := Go.Op.binOp Go.BinOp.neq 4 (Go.Operand.tmp 119) (Go.Operand.tmp 125) 4, type := 4, pos := "law.go:64", after := #[{ on := 1, ground := Go.Ground.data }, { on := 7, ground := Go.Ground.data }], guard := none }) rfl (by kernel_rfl) (by kernel_rfl) (by rfl) (fun K hK => ?_)
        go_simp; (try go_bits); refine hK _ _ ?_; clear hK K
        go_wp2
        exact ⟨⟨j + 1, by go_num, by omega, H9.out⟩, by simp [intOf]; omega⟩
      · have HDO := Lib.hid (do_any (xd := yd) (xg := yg) (xq := yq) (xw := yw) H2.out.2.1.pa H2.out.2.1.pd H2.out.2.1.ia (by have := H2.out.2.2.2.2.2; omega) hbx.k hbx.s hbx.a hbx.v)
        have x4 := hX.1.cell 4
        have x5 := hX.1.cell 5
        have x6 := hX.1.cell 6
        have x7 := hX.1.cell 7
        have x8 := hX.1.cell 8
        have x9 := hX.1.cell 9
        have x10 := hX.1.cell 10
        have x11 := hX.1.cell 11
        have hO := H2.out.2.2.2.2.1
        have o0 := hO.1.cell 0
        have o1 := hO.1.cell 1
        have o2 := hO.1.cell 2
        have o3 := hO.1.cell 3
        simp only [List.getElem?_toArray, List.getElem?_cons_zero, List.getElem?_cons_succ] at x4 x5 x6 x7 x8 x9 x10 x11 o0 o1 o2 o3
        clear hX hO
        go_wp2_with fail
        ((with_reducible refine HDO.out.mono ?_); rintro y w3 ⟨rfl, own3, s3, m3, l3, ms3, hS3, hA3, hD3, hI3, hl3⟩)
        have hS3b : Step (fun x => x ≠ 0 ∧ x ≠ 50) own2 w2 own3 w3 := hS3.mono (fun x hx => by omega)
        have hD : PE w0 own3 w3 e qe p q rp tp p2 t2 r dev s t ⟨s3, m3, l3⟩ ⟨s3, m3, l3⟩ ms3 := H2.out.2.1.did hS3 hA3 hD3 hI3
        have hS := H2.out.1.trans hS3b
        have hO := hS3b.blk H2.out.2.2.2.2.1.1 H2.out.2.2.2.2.1.2 (by decide)
        have hms9 : ms3.length ≤ j + 1 := by have := H2.out.2.2.2.2.2; omega
        have hsim := H2.out.2.2.1
        clear H2 HDO hS3 hA3 hD3 hI3 hl3 hS3b x1 x2 x3 x4 x5 x6 x7 x8 x9 x10 x11 o0 o1 o2 o3
        generalize s = s9 at *
        generalize t = t9 at *
        have hb : ((t9.st : Int) == 1) = decide (s9.st = 1) := by
          rw [← hsim.st]
          by_cases h : s9.st = 1
          · rw [decide_eq_true h, h]; rfl
          · rw [decide_eq_false h]; simp; omega
        have hDd := hD.drew
        have hSd := hS.trans ((Step.refl (fun x => x ≠ 0 ∧ x ≠ 50) _ _).drew)
        have hOd := ((Step.refl (fun x => x ≠ 0 ∧ x ≠ 50) _ _).drew).blk hO.1 hO.2 (by decide)
        have HBu := Lib.hid hDd.busy
        have r4 := hDd.reg4
        have hlq := hDd.lt
        have H9 := Lib.hid (show ∃ own' s t u ms, Step (fun x => x ≠ 0 ∧ x ≠ 50) own w own' w3.drew ∧ PE w0 own' w3.drew e qe p q rp tp p2 t2 r dev s t u u ms ∧ SimE s t ∧ ms.length ≤ j + 1 ∧ (Blk w3.drew ob 36 #[.pointer (some ⟨p, 0, none⟩), .pointer (some ⟨q, 0, none⟩), .pointer (some ⟨rp, 0, none⟩), .pointer (some ⟨p2, 0, none⟩)] ∧ own' ob = 50) from ⟨_, _, _, _, _, hSd, hDd, hsim, hms9, hOd⟩)
        obtain ⟨BB, hBB⟩ : ∃ BB, decide (s9.st = 1) = BB := ⟨_, rfl⟩
        rw [hBB] at hb HBu
        clear hD hDd hS hSd hsim hBB hO hOd hms9
        go_wp2_with fail
        refine wpE_region (S := fun (W' : World) => W'.cell? ⟨qe, 7, none⟩ = some (.int .u64 (t9.st : Int))) (s := 8) (by kernel_rfl) ?_
        have hS : (fun (W' : World) => W'.cell? ⟨qe, 7, none⟩ = some (.int .u64 (t9.st : Int))) _ := r4
        refine wpE_take (i := 0) (oi := { dst := some 118, op := Go.Op.move (Go.Operand.tmp 0), type := 42, pos := "law.go:64", after := #[], guard := none }) (v := ?_) rfl (by kernel_rfl) (fun _ _ _ h => h) (Or.inl ⟨by rfl, fun W hW => ?_⟩) hS ?_
        rotate_left
        · (have hw1 : W.cell? ⟨qe, 7, none⟩ = some (.int .u64 (t9.st : Int)) := hW); go_simp; (try go_bits); (try rw [if_pos (by omega)]); (try with_reducible rfl)
        (try simp only [Act.put, List.setIfInBounds_toArray, List.set_cons_succ, List.set_cons_zero])
        refine wpE_take (i := 2) (oi := { dst := some 120, op := Go.Op.move (Go.Operand.tmp 1), type := 71, pos := "law.go:64", after := #[], guard := none }) (v := ?_) rfl (by kernel_rfl) (fun _ _ _ h => h) (Or.inl ⟨by rfl, fun W hW => ?_⟩) hS ?_
        rotate_left
        · (have hw1 : W.cell? ⟨qe, 7, none⟩ = some (.int .u64 (t9.st : Int)) := hW); go_simp; (try go_bits); (try rw [if_pos (by omega)]); (try with_reducible rfl)
        (try simp only [Act.put, List.setIfInBounds_toArray, List.set_cons_succ, List.set_cons_zero])
        refine wpE_take (i := 3) (oi := { dst := some 121, op := Go.Op.nilCheck (Go.Operand.tmp 120), type := 0, pos := "law.go:64", after := #[{ on := 2, ground := Go.Ground.data }], guard := none }) (v := ?_) rfl (by kernel_rfl) (fun _ _ _ h => h) (Or.inl ⟨by rfl, fun W hW => ?_⟩) hS ?_
        rotate_left
        · (have hw1 : W.cell? ⟨qe, 7, none⟩ = some (.int .u64 (t9.st : Int)) := hW); go_simp; (try go_bits); (try rw [if_pos (by omega)]); (try with_reducible rfl)
        (try simp only [Act.put, List.setIfInBounds_toArray, List.set_cons_succ, List.set_cons_zero])
        refine wpE_take (i := 4) (oi := { dst := some 122, op := Go.Op.fieldAddr 74 (Go.Operand.tmp 121) 3, type := 0, pos := "law.go:64", after := #[{ on := 3, ground := Go.Ground.data }], guard := none }) (v := ?_) rfl (by kernel_rfl) (fun _ _ _ h => h) (Or.inl ⟨by rfl, fun W hW => ?_⟩) hS ?_
        rotate_left
        · (have hw1 : W.cell? ⟨qe, 7, none⟩ = some (.int .u64 (t9.st : Int)) := hW); go_simp; (try go_bits); (try rw [if_pos (by omega)]); (try with_reducible rfl)
        (try simp only [Act.put, List.setIfInBounds_toArray, List.set_cons_succ, List.set_cons_zero])
        refine wpE_take (i := 5) (oi := { dst := some 123, op := Go.Op.indexAddr 72 (Go.Operand.tmp 122) (Go.Operand.const (Go.Value.int Go.IntKind.i64 4)), type := 0, pos := "law.go:64", after := #[{ on := 4, ground := Go.Ground.data }], guard := none }) (v := ?_) rfl (by kernel_rfl) (fun _ _ _ h => h) (Or.inl ⟨by rfl, fun W hW => ?_⟩) hS ?_
        rotate_left
        · (have hw1 : W.cell? ⟨qe, 7, none⟩ = some (.int .u64 (t9.st : Int)) := hW); go_simp; (try go_bits); (try rw [if_pos (by omega)]); (try with_reducible rfl)
        (try simp only [Act.put, List.setIfInBounds_toArray, List.set_cons_succ, List.set_cons_zero])
        refine wpE_take (i := 6) (oi := { dst := some 124, op := Go.Op.load 23 (Go.Operand.tmp 123), type := 23, pos := "law.go:64", after := #[{ on := 5, ground := Go.Ground.data }], guard := none }) (v := ?_) rfl (by kernel_rfl) (fun _ _ _ h => h) (Or.inl ⟨by rfl, fun W hW => ?_⟩) hS ?_
        rotate_left
        · (have hw1 : W.cell? ⟨qe, 7, none⟩ = some (.int .u64 (t9.st : Int)) := hW); go_simp; (try go_bits); (try rw [if_pos (by omega)]); (try with_reducible rfl)
        (try simp only [Act.put, List.setIfInBounds_toArray, List.set_cons_succ, List.set_cons_zero])
        refine wpE_take (i := 7) (oi := { dst := some 125, op := Go.Op.binOp Go.BinOp.eql 23 (Go.Operand.tmp 124) (Go.Operand.const (Go.Value.int Go.IntKind.u64 1)) 23, type := 4, pos := "law.go:64", after := #[{ on := 6, ground := Go.Ground.data }], guard := none }) (v := ?_) rfl (by kernel_rfl) (fun _ _ _ h => h) (Or.inl ⟨by rfl, fun W hW => ?_⟩) hS ?_
        rotate_left
        · (have hw1 : W.cell? ⟨qe, 7, none⟩ = some (.int .u64 (t9.st : Int)) := hW); go_simp; (try go_bits); (try rw [if_pos (by omega)]); (try with_reducible rfl)
        (try simp only [Act.put, List.setIfInBounds_toArray, List.set_cons_succ, List.set_cons_zero])
        refine wpE_only (i := 1) (oi := { dst := some 119, op := Go.Op.call { callee := Go.Callee.value (Go.Operand.func 13), args := #[Go.Operand.tmp 118], argTypes := #[42] }, type := 4, pos := "law.go:64", after := #[{ on := 0, ground := Go.Ground.data }], guard := none }) rfl (by kernel_rfl) (by rfl) (fun K hK => ?_)
        go_simp; refine HBu.out.mono ?_; rintro y wz ⟨rfl, rfl⟩; refine hK _ _ hS ?_; clear hK K
        (try simp only [Act.put, List.setIfInBounds_toArray, List.set_cons_succ, List.set_cons_zero])
        refine wpE_last (oi := { dst := some 126, op := Go.Op.binOp Go.BinOp.neq 4 (Go.Operand.tmp 119) (Go.Operand.tmp 125) 4, type := 4, pos := "law.go:64", after := #[{ on := 1, ground := Go.Ground.data }, { on := 7, ground := Go.Ground.data }], guard := none }) rfl (by kernel_rfl) (by kernel_rfl) (by rfl) (fun K hK => ?_)
        go_simp; (try go_bits); refine hK _ _ ?_; clear hK K
        go_wp2
        exact ⟨⟨j + 1, by go_num, by omega, H9.out⟩, by simp [intOf]; omega⟩
    · obtain rfl : j = L.length := by omega
      clear hlt
      obtain ⟨own1, s, t, u, ms, hS1, hD1, hsim, hmsl, hO1⟩ := HR.out
      have HF := Lib.hid (And.intro hS1 (And.intro hD1 hsim))
      clear hS1 hD1 hsim hmsl hO1 HR
      go_wp2
      go_ret
      exact ⟨rfl, _, _, _, _, _, HF.out⟩
end Go.Proofs.YtonhlgfgbdiapaaGreat

/- citadellaw08.awake. -/
namespace Go.Proofs.YtonhlgfgbdiapaaGreat
set_option linter.unusedVariables false
set_option linter.unusedSimpArgs false
open Go.RowKit
set_option maxRecDepth 100000
/-- what awake's memory holds -/
def awM : Nat → Int := cellsM 2 (fun _ => 0) [(1, 77)]
theorem awM_eq : awM = put (fun _ => 0) 8 8 77 := rfl
theorem aw_rd : rdR 0 2 awM 8 8 = (77, true) := by
  unfold rdR
  rw [if_pos (by decide), awM_eq]
  show (num (put (fun _ => 0) 8 8 77) 8 8, true) = _
  rw [num_put]
  rfl
def awS : Eg := begE 8 4096 8
theorem aw_fit : fitJ 0 2 8 4096 0 = true := by decide
theorem aw_st : awS.st = 1 := by unfold awS; rw [begE_st]; decide
theorem aw_step : (stepS 0 2 awS).st = 2 := by
  show (stepS 0 2 (begE 8 4096 8)).st = 2
  rw [(run_go (RunE.beg 8 4096 8) aw_st (j := 0) (by rw [begE_eq]) aw_fit).1]
  rfl
theorem aw_mem : rdR 0 2 (stepM 0 2 awS awM) 4096 8 = (77, true) := by
  have h := run_mem (base := 0) (n := 2) awM (RunE.beg 8 4096 8) aw_st (j := 0) (by rw [begE_eq]) aw_fit
  rw [show stepM 0 2 awS awM = _ from h]
  rw [show (((8 + 8 * 0) % 18446744073709551616 : Nat) : Int) = 8 from rfl, show (((4096 + 8 * 0) % 18446744073709551616 : Nat) : Int) = 4096 from rfl, aw_rd]
  unfold wrR rdR
  rw [if_pos (by decide), if_pos (by decide)]
  show (num (put awM 4096 8 77) 4096 8, true) = _
  rw [num_put]
  rfl
set_option maxHeartbeats 2000000 in
theorem awake08 (w : World) : Calls Tryz.prog 19 #[] w fun x w' => x = .returned (.bool true) ∧ Upd (fun _ => False) w w' := by
  have hS0 : Step (fun _ => False) (fun _ => 0) w (ext (fun _ => 0) w 9) (w.alloc (.cells #[.int .i64 1, .int .u64 77] 26)) := ⟨(Upd.refl _ _).alloc _, fun b hb => ext_old _ _ _ hb⟩
  have hB0 := Blk.new w 26 #[.int .i64 1, .int .u64 77]
  have hC : CellsAt (w.alloc (.cells #[.int .i64 1, .int .u64 77] 26)) (.slice (some ⟨w.heap.size, 0, none⟩) 1 1) [(1, 77)] := by
    refine ⟨_, 1, rfl, fun _ => ⟨w.heap.size, 0, rfl, hB0.lt, fun k x hx => ?_⟩⟩
    have hk : k = 0 := by
      rcases Nat.eq_zero_or_pos k with h | h
      · exact h
      · rw [List.getElem?_eq_none (by simp; omega)] at hx; cases hx
    subst hk
    cases hx
    exact ⟨hB0.cell 0, hB0.cell 1⟩
  have hMm := law_MemoryC 2 (by decide) (by decide) (ext (fun _ => 0) w 9) 1 2 (by decide) _ _ _ hC (by decide) (by intro x hx; simp at hx; subst hx; decide)
  rw [show ((2 : Nat) : Int) = 2 from rfl] at hMm
  have HM := Lib.hid hMm
  have HS0 := Lib.hid hS0
  clear hS0 hB0 hC hMm
  go_enter Tryz.func19, Tryz.ntmps19
  go_wp2_with fail
  ((with_reducible refine HM.out.mono ?_); rintro x w1 ⟨p1, p2, own1, rfl, hS1, hm1, hm2⟩)
  have hS2 : Step (fun _ => False) own1 w1 (ext own1 w1 9) (w1.alloc (.cells #[.pointer (some ⟨p1, 0, none⟩), .pointer (some ⟨p2, 0, none⟩)] 34)) := ⟨(Upd.refl _ _).alloc _, fun b hb => ext_old _ _ _ hb⟩
  have HF := Lib.hid (eng_Flat (ext own1 w1 9) 3 p1 (w1.alloc (.cells #[.pointer (some ⟨p1, 0, none⟩), .pointer (some ⟨p2, 0, none⟩)] 34)))
  have H1 := Lib.hid (And.intro ((HS0.out.trans hS1).trans hS2) (And.intro (hm1.step hS2 (fun h => h)) (And.intro (hm2.step hS2 (fun h => h)) (And.intro (Blk.new w1 34 #[.pointer (some ⟨p1, 0, none⟩), .pointer (some ⟨p2, 0, none⟩)]) (show ext own1 w1 9 w1.heap.size = 9 from ext_new _ _ _ (Nat.le_refl _))))))
  clear hS1 hm1 hm2 hS2 HM HS0
  go_wp2_with fail
  ((with_reducible refine HF.out.mono ?_); rintro x w3 ⟨e, own3, rfl, hS3, hE3⟩)
  have hc := hS3.blk H1.out.2.2.2.1 H1.out.2.2.2.2 (fun h => h)
  have hFE : FE w own3 w3 e p1 p2 0 2 eg0 awM awM := ⟨(H1.out.1.trans hS3).mono (fun _ h => h.elim), H1.out.2.1.step hS3 (fun h => h), H1.out.2.2.1.step hS3 (fun h => h), hE3, EgOk.init⟩
  have x0 := hc.1.cell 0
  simp only [List.getElem?_toArray, List.getElem?_cons_zero] at x0
  have HT := Lib.hid hc
  have HFE := Lib.hid hFE
  have HW := Lib.hid (hFE.writeL 0 0 rfl (by decide) 8 (by decide) (by decide) 8 8 rfl (by decide) true (by decide))
  clear hS3 hE3 hc hFE H1 HF
  generalize w1.heap.size = xb at *
  go_wp2_with fail
  ((with_reducible refine HW.out.mono ?_); rintro x w4 ⟨rfl, own4, hS4, hFE⟩)
  clear x0
  have hc := hS4.blk HT.out.1 HT.out.2 (by decide)
  have x0 := hc.1.cell 0
  simp only [List.getElem?_toArray, List.getElem?_cons_zero] at x0
  clear HT HW HFE hS4
  have HT := Lib.hid hc
  have HW := Lib.hid (hFE.writeL 8 8 rfl (by decide) 8 (by decide) (by decide) 4096 4096 rfl (by decide) true (by decide))
  clear hc hFE
  go_wp2_with fail
  ((with_reducible refine HW.out.mono ?_); rintro x w5 ⟨rfl, own5, hS5, hFE⟩)
  clear x0
  have hc := hS5.blk HT.out.1 HT.out.2 (by decide)
  have x0 := hc.1.cell 0
  simp only [List.getElem?_toArray, List.getElem?_cons_zero] at x0
  clear HT HW hS5
  have HT := Lib.hid hc
  have HW := Lib.hid (hFE.writeL 16 16 rfl (by decide) 8 (by decide) (by decide) 8 8 rfl (by decide) true (by decide))
  clear hc hFE
  go_wp2_with fail
  ((with_reducible refine HW.out.mono ?_); rintro x w6 ⟨rfl, own6, hS6, hFE⟩)
  clear x0
  have hc := hS6.blk HT.out.1 HT.out.2 (by decide)
  have x0 := hc.1.cell 0
  simp only [List.getElem?_toArray, List.getElem?_cons_zero] at x0
  clear HT HW hS6
  have HT := Lib.hid hc
  have HW := Lib.hid (hFE.writeL 24 24 rfl (by decide) 8 (by decide) (by decide) 1 1 rfl (by decide) true (by decide))
  clear hc hFE
  go_wp2_with fail
  ((with_reducible refine HW.out.mono ?_); rintro x w7 ⟨rfl, own7, hS7, hFE⟩)
  rw [tellE, wr24 _ 8 (.inr rfl)] at hFE
  have hFE : FE w own7 w7 e p1 p2 0 2 awS awM awM := hFE
  clear x0
  have hc := hS7.blk HT.out.1 HT.out.2 (by decide)
  clear HT HW hS7
  have hBu := hFE.busy
  rw [decide_eq_true aw_st] at hBu
  have HBu := Lib.hid hBu
  have HSt := Lib.hid hFE.stepE
  have x0 := hc.1.cell 0
  simp only [List.getElem?_toArray, List.getElem?_cons_zero] at x0
  have HT := Lib.hid hc
  clear hc hFE hBu
  go_wp2_with fail
  ((with_reducible refine HBu.out.mono ?_); rintro x wz ⟨rfl, rfl⟩)
  clear HBu
  go_wp2_with fail
  ((with_reducible refine HSt.out.mono ?_); rintro x w8 ⟨rfl, own8, hS8, hFE⟩)
  clear x0
  have hc := hS8.blk HT.out.1 HT.out.2 (by decide)
  have hR := hFE.readR 4096 8 (by decide) (by decide) (by decide) (by decide)
  rw [aw_mem] at hR
  have x0 := hc.1.cell 0
  simp only [List.getElem?_toArray, List.getElem?_cons_zero] at x0
  have HR := Lib.hid hR
  have HFE := Lib.hid hFE
  clear hS8 hFE hR HT HSt hc
  go_wp2_with fail
  ((with_reducible refine HR.out.mono ?_); rintro x w9 ⟨rfl, hS9⟩)
  have hRd := (HFE.out.none_ hS9).readL 32 32 rfl (by decide) 8 (by decide) (by decide) 2 2 aw_step rfl true (by decide)
  have HRd := Lib.hid hRd
  clear hRd HFE HR hS9 x0
  go_wp2_with fail
  ((with_reducible refine HRd.out.mono ?_); rintro x w10 ⟨rfl, own10, hS10, hFE⟩)
  have HE := Lib.hid hFE.upd
  clear hFE hS10 HRd
  go_wp2
  go_ret
  exact ⟨rfl, HE.out⟩
end Go.Proofs.YtonhlgfgbdiapaaGreat

/- citadellaw00: SameTrans of lists that are the same. -/
namespace Go.Proofs.YtonhlgfgbdiapaaGreat
set_option linter.unusedVariables false
set_option linter.unusedSimpArgs false
open Go.RowKit
set_option maxRecDepth 100000

theorem Reads.beg {w : World} {B size n : Nat} {A : Option Addr} {xs : List Value} (h : Reads w B size A n xs) (hn : 0 < n) (hs : 0 < size) : ∃ b o, A = some ⟨b, o, none⟩ ∧ b < B ∧ ∀ j u, xs[j]? = some u → w.cell? ⟨b, o + j, none⟩ = some u := by
  obtain ⟨ad, rfl, hb, hc⟩ := h.2 hn
  have hl : 0 < xs.length := by rw [h.1]; exact Nat.mul_pos hn hs
  have h0 := hc 0 _ (List.getElem?_eq_getElem hl)
  obtain ⟨b, o, sp⟩ := ad
  cases sp with
  | some k =>
    simp only [Addr.add, if_true] at h0
    unfold World.cell? at h0
    split at h0 <;> simp at h0
  | none =>
    refine ⟨b, o, rfl, hb, fun j u hu => ?_⟩
    have := hc j u hu
    rwa [Addr.add_lit] at this
theorem trans_eq (a b c d : Int) (w : World) : (Op.equalIn 10000 153 (.agg #[.int .i64 a, .int .u64 b, .int .u64 c, .int .i64 d]) (.agg #[.int .i64 a, .int .u64 b, .int .u64 c, .int .i64 d])).run Tryz.prog w = .ok true w := by
  have u3 := Tryz.underlying3
  have u30 := Tryz.underlying23
  have hS : Tryz.prog.underlying 153 = some (.struct (Tryz.prog.fieldsOf 153)) := by kernel_rfl
  have hp : Tryz.prog.stoodInHeld 153 = false := by kernel_rfl
  rw [show (10000 : Nat) = 9999 + 1 from rfl, run_equalIn_agg w 9999 153 _ _ hS hp]
  simp only [Program.fieldsOf, Tryz.underlying153]
  go_simp
set_option maxHeartbeats 1000000 in
theorem same_trans {w : World} {A B : Option Addr} {a b ca cb : Nat} {l : List Tr} (hl : l.length ≤ 1024) (h1 : Reads w a 4 A l.length (trsC l)) (h2 : Reads w b 4 B l.length (trsC l)) :
    Calls Tryz.prog 25 #[.slice A l.length ca, .slice B l.length cb] w fun e w' => e = .returned (.bool true) ∧ ∃ k, w' = w.drewN k := by
  have H := Lib.hid (And.intro h1 h2)
  clear h1 h2
  go_enter Tryz.func25, Tryz.ntmps25
  go_wp2
  go_loopw [5] (fun i wr => ∃ (k : Nat), k ≤ l.length ∧ i = .int .i64 (k : Int) ∧ ∃ q, wr = w.drewN q) (fun i _ => l.length - (intOf i).toNat)
  case atStart => exact ⟨0, by omega, rfl, 0, rfl⟩
  case round =>
    obtain ⟨k, hk, rfl, q, rfl⟩ := hrel
    by_cases hlt : k < l.length
    · obtain ⟨b1, o1, rfl, _, hc1⟩ := H.out.1.beg (by omega) (by omega)
      obtain ⟨b2, o2, rfl, _, hc2⟩ := H.out.2.beg (by omega) (by omega)
      obtain ⟨q0, q1, q2, q3⟩ := trsC_at l k _ (List.getElem?_eq_getElem hlt)
      have x0 : w.cell? ⟨b1, o1 + k * 4, none⟩ = _ := hc1 _ _ q0
      have x1 : w.cell? ⟨b1, o1 + (k * 4 + 1), none⟩ = _ := hc1 _ _ q1
      have x2 : w.cell? ⟨b1, o1 + (k * 4 + 2), none⟩ = _ := hc1 _ _ q2
      have x3 : w.cell? ⟨b1, o1 + (k * 4 + 3), none⟩ = _ := hc1 _ _ q3
      have y0 : w.cell? ⟨b2, o2 + k * 4, none⟩ = _ := hc2 _ _ q0
      have y1 : w.cell? ⟨b2, o2 + (k * 4 + 1), none⟩ = _ := hc2 _ _ q1
      have y2 : w.cell? ⟨b2, o2 + (k * 4 + 2), none⟩ = _ := hc2 _ _ q2
      have y3 : w.cell? ⟨b2, o2 + (k * 4 + 3), none⟩ = _ := hc2 _ _ q3
      simp only [← Nat.add_assoc] at x1 x2 x3 y1 y2 y3
      have hlt' : (k : Int) < (l.length : Int) := by omega
      generalize l[k] = x at *
      have te := trans_eq x.v x.p x.f x.r
      clear hc1 hc2 q0 q1 q2 q3
      go_wp2_with fail
      refine wpE_region (S := fun (W' : World) => W' = (w.drewN q).drew) (s := 8) (by kernel_rfl) ?_
      have hS : (fun (W' : World) => W' = (w.drewN q).drew) _ := rfl
      refine wpE_take (i := 0) (oi := { dst := some 17, op := Go.Op.move (Go.Operand.tmp 0), type := 79, pos := "law.go:64", after := #[], guard := none }) (v := ?_) rfl (by kernel_rfl) (fun _ _ _ h => h) (Or.inl ⟨by rfl, fun W hW => ?_⟩) hS ?_
      rotate_left
      · (obtain rfl : W = (w.drewN q).drew := hW); go_simp; (try go_bits); (try rw [if_pos (by omega)]); (try with_reducible rfl)
      (try simp only [Act.put, List.setIfInBounds_toArray, List.set_cons_succ, List.set_cons_zero])
      refine wpE_take (i := 1) (oi := { dst := some 18, op := Go.Op.move (Go.Operand.tmp 5), type := 3, pos := "law.go:64", after := #[], guard := none }) (v := ?_) rfl (by kernel_rfl) (fun _ _ _ h => h) (Or.inl ⟨by rfl, fun W hW => ?_⟩) hS ?_
      rotate_left
      · (obtain rfl : W = (w.drewN q).drew := hW); go_simp; (try go_bits); (try rw [if_pos (by omega)]); (try with_reducible rfl)
      (try simp only [Act.put, List.setIfInBounds_toArray, List.set_cons_succ, List.set_cons_zero])
      refine wpE_take (i := 2) (oi := { dst := some 19, op := Go.Op.indexAddr 79 (Go.Operand.tmp 17) (Go.Operand.tmp 18), type := 0, pos := "law.go:64", after := #[{ on := 0, ground := Go.Ground.data }, { on := 1, ground := Go.Ground.data }], guard := none }) (v := ?_) rfl (by kernel_rfl) (fun _ _ _ h => h) (Or.inl ⟨by rfl, fun W hW => ?_⟩) hS ?_
      rotate_left
      · (obtain rfl : W = (w.drewN q).drew := hW); go_simp; (try go_bits); (try rw [if_pos (by omega)]); (try with_reducible rfl)
      (try simp only [Act.put, List.setIfInBounds_toArray, List.set_cons_succ, List.set_cons_zero])
      refine wpE_take (i := 3) (oi := { dst := some 20, op := Go.Op.load 153 (Go.Operand.tmp 19), type := 153, pos := "law.go:64", after := #[{ on := 2, ground := Go.Ground.data }], guard := none }) (v := ?_) rfl (by kernel_rfl) (fun _ _ _ h => h) (Or.inl ⟨by rfl, fun W hW => ?_⟩) hS ?_
      rotate_left
      · (obtain rfl : W = (w.drewN q).drew := hW); go_simp; (try go_bits); (try rw [if_pos (by omega)]); (try with_reducible rfl)
      (try simp only [Act.put, List.setIfInBounds_toArray, List.set_cons_succ, List.set_cons_zero])
      refine wpE_take (i := 4) (oi := { dst := some 21, op := Go.Op.move (Go.Operand.tmp 1), type := 79, pos := "law.go:64", after := #[], guard := none }) (v := ?_) rfl (by kernel_rfl) (fun _ _ _ h => h) (Or.inl ⟨by rfl, fun W hW => ?_⟩) hS ?_
      rotate_left
      · (obtain rfl : W = (w.drewN q).drew := hW); go_simp; (try go_bits); (try rw [if_pos (by omega)]); (try with_reducible rfl)
      (try simp only [Act.put, List.setIfInBounds_toArray, List.set_cons_succ, List.set_cons_zero])
      refine wpE_take (i := 5) (oi := { dst := some 22, op := Go.Op.move (Go.Operand.tmp 5), type := 3, pos := "law.go:64", after := #[], guard := none }) (v := ?_) rfl (by kernel_rfl) (fun _ _ _ h => h) (Or.inl ⟨by rfl, fun W hW => ?_⟩) hS ?_
      rotate_left
      · (obtain rfl : W = (w.drewN q).drew := hW); go_simp; (try go_bits); (try rw [if_pos (by omega)]); (try with_reducible rfl)
      (try simp only [Act.put, List.setIfInBounds_toArray, List.set_cons_succ, List.set_cons_zero])
      refine wpE_take (i := 6) (oi := { dst := some 23, op := Go.Op.indexAddr 79 (Go.Operand.tmp 21) (Go.Operand.tmp 22), type := 0, pos := "law.go:64", after := #[{ on := 4, ground := Go.Ground.data }, { on := 5, ground := Go.Ground.data }], guard := none }) (v := ?_) rfl (by kernel_rfl) (fun _ _ _ h => h) (Or.inl ⟨by rfl, fun W hW => ?_⟩) hS ?_
      rotate_left
      · (obtain rfl : W = (w.drewN q).drew := hW); go_simp; (try go_bits); (try rw [if_pos (by omega)]); (try with_reducible rfl)
      (try simp only [Act.put, List.setIfInBounds_toArray, List.set_cons_succ, List.set_cons_zero])
      refine wpE_take (i := 7) (oi := { dst := some 24, op := Go.Op.load 153 (Go.Operand.tmp 23), type := 153, pos := "law.go:64", after := #[{ on := 6, ground := Go.Ground.data }], guard := none }) (v := ?_) rfl (by kernel_rfl) (fun _ _ _ h => h) (Or.inl ⟨by rfl, fun W hW => ?_⟩) hS ?_
      rotate_left
      · (obtain rfl : W = (w.drewN q).drew := hW); go_simp; (try go_bits); (try rw [if_pos (by omega)]); (try with_reducible rfl)
      (try simp only [Act.put, List.setIfInBounds_toArray, List.set_cons_succ, List.set_cons_zero])
      refine wpE_last (oi := { dst := some 25, op := Go.Op.binOp Go.BinOp.neq 153 (Go.Operand.tmp 20) (Go.Operand.tmp 24) 153, type := 4, pos := "law.go:64", after := #[{ on := 3, ground := Go.Ground.data }, { on := 7, ground := Go.Ground.data }], guard := none }) rfl (by kernel_rfl) (by kernel_rfl) (by rfl) (fun K hK => ?_)
      go_simp; (try go_bits); refine hK _ _ ?_; clear hK K
      go_wp2
      exact ⟨⟨k + 1, by omega, by go_num, q + 1, rfl⟩, by simp [intOf]; omega⟩
    · obtain rfl : k = l.length := by omega
      go_wp2
      go_ret
      exact ⟨rfl, q, rfl⟩
end Go.Proofs.YtonhlgfgbdiapaaGreat

/- EnginePlays: the walk. -/
namespace Go.Proofs.YtonhlgfgbdiapaaGreat
set_option linter.unusedVariables false
set_option linter.unusedSimpArgs false
open Go.RowKit Go.Maps
set_option maxRecDepth 100000
section
theorem eng_New (own : Nat → Nat) (c p rp : Nat) (dev : Int) (hd : 0 ≤ dev ∧ dev < 8) (w : World) : Calls Tryz.prog 10 #[.int .i64 dev, .pointer (some ⟨rp, 0, none⟩), .pointer (some ⟨p, 0, none⟩)] w fun x w' => ∃ e own', x = .returned (.tuple #[.pointer (some ⟨e, 0, none⟩), .int .i64 0]) ∧ Step (fun _ => False) own w own' w' ∧ EngAt own' c w' e rp (wayT p dev) eg0 := by
  have hmm := @run_makeMap Tryz.prog
  have hS1 : Step (fun _ => False) own w (ext own w c) (w.alloc (.map #[] 0)) := ⟨(Upd.refl _ _).alloc _, fun b hb => ext_old _ _ _ hb⟩
  have hS2 : Step (fun _ => False) (ext own w c) (w.alloc (.map #[] 0)) (ext (ext own w c) (w.alloc (.map #[] 0)) c) ((w.alloc (.map #[] 0)).alloc (.cells (egC rp (wayT p dev) w.heap.size 0 0 0 (.map none)) 123)) := ⟨(Upd.refl _ _).alloc _, fun b hb => ext_old _ _ _ hb⟩
  have hM := MapB.made w Tryz.prog 23 encU
  have hR : RegAt (ext own w c) c (w.alloc (.map #[] 0)) w.heap.size eg0.rg := ⟨ext_new _ _ _ (Nat.le_refl _), [], hM, fun k => rfl⟩
  have hE : EngAt (ext (ext own w c) (w.alloc (.map #[] 0)) c) c ((w.alloc (.map #[] 0)).alloc (.cells (egC rp (wayT p dev) w.heap.size 0 0 0 (.map none)) 123)) (w.alloc (.map #[] 0)).heap.size rp (wayT p dev) eg0 :=
    ⟨w.heap.size, 0, .map none, Blk.new _ _ _, ext_new _ _ _ (Nat.le_refl _), hR.step hS2 (fun h => h), .inl ⟨rfl, rfl⟩⟩
  have hSS := hS1.trans hS2
  rw [World.size_alloc] at hE
  have HF := Lib.hid (And.intro hSS hE)
  have h1 : decide (dev < 0) = false := by simp; omega
  have h2 : decide ((8 : Int) ≤ dev) = false := by simp; omega
  have h3 : 0 ≤ dev := hd.1
  have h4 : dev < 8 := hd.2
  clear hS1 hS2 hM hR hE hSS hd
  go_enter Tryz.func10, Tryz.ntmps10
  go_wp2
  go_ret2
  exact ⟨_, _, rfl, HF.out⟩
theorem eng_New_bad (p rp : Nat) (dev : Int) (hd : ¬ (0 ≤ dev ∧ dev < 8)) (w : World) : Calls Tryz.prog 10 #[.int .i64 dev, .pointer (some ⟨rp, 0, none⟩), .pointer (some ⟨p, 0, none⟩)] w fun x w' => x = .returned (.tuple #[.pointer none, .int .i64 1]) ∧ w = w' := by
  rcases (show dev < 0 ∨ (0 ≤ dev ∧ 8 ≤ dev) by omega) with h | ⟨h0, h⟩
  · have h1 : decide (dev < 0) = true := by simp; omega
    go_enter Tryz.func10, Tryz.ntmps10
    go_wp2
    go_ret2
    exact ⟨rfl, rfl⟩
  · have h1 : decide (dev < 0) = false := by simp; omega
    have h2 : decide ((8 : Int) ≤ dev) = true := by simp; omega
    go_enter Tryz.func10, Tryz.ntmps10
    go_wp2
    go_ret2
    exact ⟨rfl, rfl⟩
theorem ref08_New (own : Nat → Nat) (c q p2 : Nat) (dev : Int) (hd : 0 ≤ dev ∧ dev < 8) (w : World) : Calls Tryz.prog 24 #[.int .i64 dev, .pointer (some ⟨p2, 0, none⟩), .pointer (some ⟨q, 0, none⟩)] w fun x w' => ∃ qe own', x = .returned (.tuple #[.pointer (some ⟨qe, 0, none⟩), .int .i64 0]) ∧ Step (fun _ => False) own w own' w' ∧ ErAt own' c w' qe dev (.pointer (some ⟨p2, 0, none⟩)) (.pointer (some ⟨q, 0, none⟩)) eg0 := by
  have hS1 : Step (fun _ => False) own w (ext own w c) (w.alloc (.cells (erC dev (.pointer (some ⟨p2, 0, none⟩)) (.pointer (some ⟨q, 0, none⟩)) eg0) 74)) := ⟨(Upd.refl _ _).alloc _, fun b hb => ext_old _ _ _ hb⟩
  have hE : ErAt (ext own w c) c (w.alloc (.cells (erC dev (.pointer (some ⟨p2, 0, none⟩)) (.pointer (some ⟨q, 0, none⟩)) eg0) 74)) w.heap.size dev (.pointer (some ⟨p2, 0, none⟩)) (.pointer (some ⟨q, 0, none⟩)) eg0 := ⟨Blk.new w _ _, ext_new _ _ _ (Nat.le_refl _)⟩
  rw [show erC dev (.pointer (some ⟨p2, 0, none⟩)) (.pointer (some ⟨q, 0, none⟩)) eg0 = #[.int .i64 dev, .pointer (some ⟨p2, 0, none⟩), .pointer (some ⟨q, 0, none⟩), .int .u64 0, .int .u64 0, .int .u64 0, .int .u64 0, .int .u64 0, .int .u64 0, .int .u64 0, .int .u64 0] from rfl] at hS1 hE
  have HF := Lib.hid (And.intro hS1 hE)
  have h1 : decide (dev < 0) = false := by simp; omega
  have h2 : decide ((8 : Int) ≤ dev) = false := by simp; omega
  have h3 : 0 ≤ dev := hd.1
  have h4 : dev < 8 := hd.2
  clear hS1 hE hd
  go_enter Tryz.func24, Tryz.ntmps24
  go_wp2
  go_ret2
  exact ⟨_, _, rfl, HF.out⟩
theorem ref08_New_bad (q p2 : Nat) (dev : Int) (hd : ¬ (0 ≤ dev ∧ dev < 8)) (w : World) : Calls Tryz.prog 24 #[.int .i64 dev, .pointer (some ⟨p2, 0, none⟩), .pointer (some ⟨q, 0, none⟩)] w fun x w' => x = .returned (.tuple #[.pointer none, .int .i64 1]) ∧ w = w' := by
  rcases (show dev < 0 ∨ (0 ≤ dev ∧ 8 ≤ dev) by omega) with h | ⟨h0, h⟩
  · have h1 : decide (dev < 0) = true := by simp; omega
    go_enter Tryz.func24, Tryz.ntmps24
    go_wp2
    go_ret2
    exact ⟨rfl, rfl⟩
  · have h1 : decide (dev < 0) = false := by simp; omega
    have h2 : decide ((8 : Int) ≤ dev) = true := by simp; omega
    go_enter Tryz.func24, Tryz.ntmps24
    go_wp2
    go_ret2
    exact ⟨rfl, rfl⟩
end
/-- what the law's last line loads -/
def pS (xo p q rp p2 : Nat) (W : World) : Prop := (W.cell? ⟨xo, 0, none⟩ = some (.pointer (some ⟨p, 0, none⟩)) ∧ W.cell? ⟨xo, 1, none⟩ = some (.pointer (some ⟨q, 0, none⟩)) ∧ W.cell? ⟨xo, 2, none⟩ = some (.pointer (some ⟨rp, 0, none⟩)) ∧ W.cell? ⟨xo, 3, none⟩ = some (.pointer (some ⟨p2, 0, none⟩))) ∧ xo < W.heap.size
def pT (q t2 : Nat) (v : Value) (W : World) : Prop := (W.cell? ⟨q, 1, none⟩ = some (.pointer (some ⟨t2, 0, none⟩)) ∧ W.cell? ⟨t2, 1, none⟩ = some v) ∧ q < W.heap.size ∧ t2 < W.heap.size
theorem pS.upd {xo p q rp p2 : Nat} {w w' : World} (h : pS xo p q rp p2 w) (hU : Upd (fun _ => False) w w') : pS xo p q rp p2 w' := by
  obtain ⟨⟨h0, h1, h2, h3⟩, hl⟩ := h
  exact ⟨⟨(hU.cell (p := ⟨xo, 0, none⟩) hl (fun h => h)).trans h0, (hU.cell (p := ⟨xo, 1, none⟩) hl (fun h => h)).trans h1, (hU.cell (p := ⟨xo, 2, none⟩) hl (fun h => h)).trans h2, (hU.cell (p := ⟨xo, 3, none⟩) hl (fun h => h)).trans h3⟩, Nat.lt_of_lt_of_le hl hU.size⟩
theorem pT.upd {q t2 : Nat} {v : Value} {w w' : World} (h : pT q t2 v w) (hU : Upd (fun _ => False) w w') : pT q t2 v w' := by
  obtain ⟨⟨h0, h1⟩, hl, hl2⟩ := h
  exact ⟨⟨(hU.cell (p := ⟨q, 1, none⟩) hl (fun h => h)).trans h0, (hU.cell (p := ⟨t2, 1, none⟩) hl2 (fun h => h)).trans h1⟩, Nat.lt_of_lt_of_le hl hU.size, Nat.lt_of_lt_of_le hl2 hU.size⟩
set_option maxHeartbeats 8000000 in
theorem plays_calls (w : World) (dev : Int) (hdv : i64B dev) (v : Value) (cs : List (Int × Nat)) (hv : CellsAt w v cs) (hlen : cs.length ≤ 9223372036854775807) (hb : ∀ x ∈ cs, -9223372036854775808 ≤ x.1 ∧ x.1 ≤ 9223372036854775807 ∧ x.2 < 18446744073709551616)
    (A : Option Addr) (cap : Nat) (L : List Op8) (hL : Ops8At w (.slice A L.length cap) L) (hLb : ∀ o ∈ L, Op8B o) (hLl : L.length ≤ 2199023255488) :
    Calls Tryz.prog 5 #[.int .i64 dev, v, .slice A L.length cap] w fun x w' => x = .returned (.bool true) ∧ Upd (fun _ => False) w w' := by
  obtain ⟨M0, hM0⟩ : ∃ M0, cellsM 8 (fun _ => 0) cs = M0 := ⟨_, rfl⟩
  have hN := law07_NewC 0 (fun _ => 0) 8 (by decide) w v cs hv hlen hb
  rw [hM0, show ((8 : Nat) : Int) = 8 from rfl] at hN
  have HN := Lib.hid hN
  obtain ⟨A0, cap0, rfl, _⟩ := hv
  have HL := Lib.hid (And.intro hL (And.intro hLb hLl))
  clear hN hlen hb hL hLb hM0
  go_enter Tryz.func5, Tryz.ntmps5
  go_wp2_with fail
  ((with_reducible refine HN.out.mono ?_); rintro x w1 ⟨p, q, rp, tp, p2, t2, own1, rfl, hS1, hO1⟩)
  have hS2 : Step (fun _ => False) own1 w1 (ext own1 w1 50) (w1.alloc (.cells #[.pointer (some ⟨p, 0, none⟩), .pointer (some ⟨q, 0, none⟩), .pointer (some ⟨rp, 0, none⟩), .pointer (some ⟨p2, 0, none⟩)] 36)) := ⟨(Upd.refl _ _).alloc _, fun b hb => ext_old _ _ _ hb⟩
  have hO2 := hO1.step hS2 (fun x h => h.elim)
  have hX2 : Blk (w1.alloc (.cells #[.pointer (some ⟨p, 0, none⟩), .pointer (some ⟨q, 0, none⟩), .pointer (some ⟨rp, 0, none⟩), .pointer (some ⟨p2, 0, none⟩)] 36)) w1.heap.size 36 #[.pointer (some ⟨p, 0, none⟩), .pointer (some ⟨q, 0, none⟩), .pointer (some ⟨rp, 0, none⟩), .pointer (some ⟨p2, 0, none⟩)] ∧ ext own1 w1 50 w1.heap.size = 50 := ⟨Blk.new w1 _ _, ext_new _ _ _ (Nat.le_refl _)⟩
  have x0 := hX2.1.cell 0
  have x1 := hX2.1.cell 1
  have x2 := hX2.1.cell 2
  have x3 := hX2.1.cell 3
  simp only [List.getElem?_toArray, List.getElem?_cons_zero, List.getElem?_cons_succ] at x0 x1 x2 x3
  have hS12 := hS1.trans hS2
  generalize hw2 : (w1.alloc (.cells #[.pointer (some ⟨p, 0, none⟩), .pointer (some ⟨q, 0, none⟩), .pointer (some ⟨rp, 0, none⟩), .pointer (some ⟨p2, 0, none⟩)] 36)) = w2 at *
  generalize ext own1 w1 50 = own2 at *
  generalize hxo : w1.heap.size = xo at *
  by_cases hd : 0 ≤ dev ∧ dev < 8
  · have HE := Lib.hid (eng_New own2 60 p rp dev hd w2)
    have H2 := Lib.hid (And.intro hS12 (And.intro hO2 hX2))
    clear hS1 hO1 hS2 hO2 hX2 hS12 HN
    go_wp2_with fail
    ((with_reducible refine HE.out.mono ?_); rintro x w3 ⟨e, own3, rfl, hS3, hE3⟩)
    have hO3 := H2.out.2.1.step hS3 (fun x h => h.elim)
    have hX3 := hS3.blk H2.out.2.2.1 H2.out.2.2.2 (fun h => h)
    have HR := Lib.hid (ref08_New own3 61 q p2 dev hd w3)
    have y1 := hX3.1.cell 1
    have y3 := hX3.1.cell 3
    simp only [List.getElem?_toArray, List.getElem?_cons_zero, List.getElem?_cons_succ] at y1 y3
    have H3 := Lib.hid (And.intro (H2.out.1.trans hS3) (And.intro hO3 (And.intro hX3 hE3)))
    clear H2 HE hS3 hO3 hX3 hE3 x0 x1 x2 x3
    go_wp2_with fail
    ((with_reducible refine HR.out.mono ?_); rintro x w4 ⟨qe, own4, rfl, hS4, hR4⟩)
    have hO4 := H3.out.2.1.step hS4 (fun x h => h.elim)
    have hX4 := hS4.blk H3.out.2.2.1.1 H3.out.2.2.1.2 (fun h => h)
    have hP0 : PI us0 [] [] := ⟨UsOk.init 8, fun t ht => (by cases ht), List.Pairwise.nil, MsRel.init⟩
    have hPE : PE w own4 w4 e qe p q rp tp p2 t2 8 dev eg0 eg0 ⟨us0, M0, []⟩ ⟨us0, M0, []⟩ [] :=
      ⟨(H3.out.1.trans hS4).mono (fun _ h => h.elim), ⟨hO4.u, hO4.mm, hO4.t⟩, ⟨hO4.mr, hO4.ur, hO4.tr⟩, hP0, hP0, H3.out.2.2.2.step hS4 (fun h => h), EgOk.init, hR4, ErOk.init⟩
    have hPd := hPE.drew
    have HP := Lib.hid (play_P hPd SimE.init A cap L HL.out.1 HL.out.2.1 HL.out.2.2)
    have hXd := ((Step.refl (fun _ => False) own4 w4).drew).blk hX4.1 hX4.2 (fun h => h)
    have z0 := hX4.1.cell 0
    have z1 := hX4.1.cell 1
    have z2 := hX4.1.cell 2
    have z3 := hX4.1.cell 3
    simp only [List.getElem?_toArray, List.getElem?_cons_zero, List.getElem?_cons_succ] at z0 z1 z2 z3
    have hS : (fun (W' : World) => pS xo p q rp p2 W' ∧ True) w4 := ⟨⟨⟨z0, z1, z2, z3⟩, hX4.1.lt⟩, trivial⟩
    have H4 := Lib.hid hXd
    clear H3 HR hS4 hR4 hO4 hX4 hP0 hPE hPd hXd HL y1 y3 z0 z1 z2 z3
    go_wp2_with fail
    refine wpE_region (S := fun (W' : World) => pS xo p q rp p2 W' ∧ True) (s := 27) (by kernel_rfl) ?_
    have hS : (fun (W' : World) => pS xo p q rp p2 W' ∧ True) _ := hS
    refine wpE_take (i := 0) (oi := { dst := some 58, op := Go.Op.move (Go.Operand.tmp 9), type := 42, pos := "law.go:85", after := #[], guard := none }) (v := ?_) rfl (by kernel_rfl) (fun _ _ _ h => h) (Or.inl ⟨by rfl, fun W hW => ?_⟩) hS ?_
    rotate_left
    · obtain ⟨⟨⟨hw0, hw1, hw2, hw3⟩, hw4⟩, hz⟩ := hW; (try obtain ⟨⟨hz1, hz2⟩, hz3, hz4⟩ := hz); go_simp; (try go_bits); (try rw [if_pos (by omega)]); (try with_reducible rfl)
    (try simp only [Act.put, List.setIfInBounds_toArray, List.set_cons_succ, List.set_cons_zero])
    refine wpE_take (i := 1) (oi := { dst := some 59, op := Go.Op.move (Go.Operand.tmp 11), type := 71, pos := "law.go:85", after := #[], guard := none }) (v := ?_) rfl (by kernel_rfl) (fun _ _ _ h => h) (Or.inl ⟨by rfl, fun W hW => ?_⟩) hS ?_
    rotate_left
    · obtain ⟨⟨⟨hw0, hw1, hw2, hw3⟩, hw4⟩, hz⟩ := hW; (try obtain ⟨⟨hz1, hz2⟩, hz3, hz4⟩ := hz); go_simp; (try go_bits); (try rw [if_pos (by omega)]); (try with_reducible rfl)
    (try simp only [Act.put, List.setIfInBounds_toArray, List.set_cons_succ, List.set_cons_zero])
    refine wpE_take (i := 2) (oi := { dst := some 60, op := Go.Op.load 36 (Go.Operand.tmp 7), type := 36, pos := "law.go:85", after := #[], guard := none }) (v := ?_) rfl (by kernel_rfl) (fun _ _ _ h => h) (Or.inl ⟨by rfl, fun W hW => ?_⟩) hS ?_
    rotate_left
    · obtain ⟨⟨⟨hw0, hw1, hw2, hw3⟩, hw4⟩, hz⟩ := hW; (try obtain ⟨⟨hz1, hz2⟩, hz3, hz4⟩ := hz); go_simp; (try go_bits); (try rw [if_pos (by omega)]); (try with_reducible rfl)
    (try simp only [Act.put, List.setIfInBounds_toArray, List.set_cons_succ, List.set_cons_zero])
    refine wpE_take (i := 3) (oi := { dst := some 61, op := Go.Op.move (Go.Operand.tmp 2), type := 24, pos := "law.go:85", after := #[], guard := none }) (v := ?_) rfl (by kernel_rfl) (fun _ _ _ h => h) (Or.inl ⟨by rfl, fun W hW => ?_⟩) hS ?_
    rotate_left
    · obtain ⟨⟨⟨hw0, hw1, hw2, hw3⟩, hw4⟩, hz⟩ := hW; (try obtain ⟨⟨hz1, hz2⟩, hz3, hz4⟩ := hz); go_simp; (try go_bits); (try rw [if_pos (by omega)]); (try with_reducible rfl)
    (try simp only [Act.put, List.setIfInBounds_toArray, List.set_cons_succ, List.set_cons_zero])
    refine wpE_only (i := 4) (oi := { dst := some 62, op := Go.Op.call { callee := Go.Callee.value (Go.Operand.func 22), args := #[Go.Operand.tmp 58, Go.Operand.tmp 59, Go.Operand.tmp 60, Go.Operand.const (Go.Value.bool false), Go.Operand.tmp 61], argTypes := #[42, 71, 36, 4, 24] }, type := 4, pos := "law.go:85", after := #[{ on := 0, ground := Go.Ground.data }, { on := 1, ground := Go.Ground.data }, { on := 2, ground := Go.Ground.data }, { on := 3, ground := Go.Ground.data }], guard := none }) rfl (by kernel_rfl) (by rfl) (fun K hK => ?_)
    go_simp; refine HP.out.mono ?_; rintro x w5 ⟨rfl, own5, s5, t5, u5, ms5, hS5, hD5, _⟩
    have hX5 := hS5.blk H4.out.1 H4.out.2 (by decide)
    obtain ⟨⟨v5, hb5, ho5, hR5⟩, _, _, hl64⟩ := hD5.pd.tr
    obtain ⟨A5, cap5, hv5, _⟩ := hR5.form
    subst hv5
    have hq5 := hD5.pd.ur.cells
    have hp5 : pS xo p q rp p2 w5 := ⟨⟨hX5.1.cell 0, hX5.1.cell 1, hX5.1.cell 2, hX5.1.cell 3⟩, hX5.1.lt⟩
    have hpt : pT q t2 (.slice A5 u5.l.length cap5) w5 := ⟨⟨hq5.2.1, hb5.cell 1⟩, hq5.2.2.2.2.2.2.2, hb5.lt⟩
    have HSa := Lib.hid (two_Same hD5.pa.mm hD5.pd.mr)
    have H5 := Lib.hid (And.intro hD5 (And.intro hR5 hl64))
    clear hS5 hD5 hX5 hb5 ho5 hR5 hl64 hq5 HP H4
    refine hK _ _ ⟨hp5, trivial⟩ ?_; clear hK K hS
    refine wpE_mono (S' := fun (W' : World) => pS xo p q rp p2 W' ∧ pT q t2 (.slice A5 u5.l.length cap5) W') (fun _ h => ⟨h.1, trivial⟩) _ _ _ _ ?_
    have hS : pS xo p q rp p2 w5 ∧ pT q t2 (.slice A5 u5.l.length cap5) w5 := ⟨hp5, hpt⟩
    clear hp5 hpt
    (try simp only [Act.put, List.setIfInBounds_toArray, List.set_cons_succ, List.set_cons_zero])
    refine wpE_take (i := 5) (oi := { dst := some 63, op := Go.Op.move (Go.Operand.tmp 62), type := 4, pos := "law.go:85", after := #[{ on := 4, ground := Go.Ground.data }, { on := 4, ground := Go.Ground.chain }], guard := none }) (v := .bool true) rfl (by kernel_rfl) (fun _ _ _ h => h) (Or.inl ⟨by rfl, fun W hW => ?_⟩) hS ?_
    · obtain ⟨⟨⟨hw0, hw1, hw2, hw3⟩, hw4⟩, hz⟩ := hW; (try obtain ⟨⟨hz1, hz2⟩, hz3, hz4⟩ := hz); go_simp; (try go_bits); (try rw [if_pos (by omega)]); (try with_reducible rfl)
    (try simp only [Act.put, List.setIfInBounds_toArray, List.set_cons_succ, List.set_cons_zero])
    refine wpE_take (i := 6) (oi := { dst := some 64, op := Go.Op.fieldAddr 36 (Go.Operand.tmp 7) 2, type := 0, pos := "law.go:85", after := #[{ on := 5, ground := Go.Ground.guard }], guard := some (5, true) }) (v := ?_) rfl (by kernel_rfl) (fun _ _ _ h => h) (Or.inl ⟨by rfl, fun W hW => ?_⟩) hS ?_
    rotate_left
    · obtain ⟨⟨⟨hw0, hw1, hw2, hw3⟩, hw4⟩, hz⟩ := hW; (try obtain ⟨⟨hz1, hz2⟩, hz3, hz4⟩ := hz); go_simp; (try go_bits); (try rw [if_pos (by omega)]); (try with_reducible rfl)
    (try simp only [Act.put, List.setIfInBounds_toArray, List.set_cons_succ, List.set_cons_zero])
    refine wpE_take (i := 7) (oi := { dst := some 65, op := Go.Op.load 34 (Go.Operand.tmp 64), type := 34, pos := "law.go:85", after := #[{ on := 6, ground := Go.Ground.data }, { on := 5, ground := Go.Ground.guard }], guard := some (5, true) }) (v := ?_) rfl (by kernel_rfl) (fun _ _ _ h => h) (Or.inl ⟨by rfl, fun W hW => ?_⟩) hS ?_
    rotate_left
    · obtain ⟨⟨⟨hw0, hw1, hw2, hw3⟩, hw4⟩, hz⟩ := hW; (try obtain ⟨⟨hz1, hz2⟩, hz3, hz4⟩ := hz); go_simp; (try go_bits); (try rw [if_pos (by omega)]); (try with_reducible rfl)
    (try simp only [Act.put, List.setIfInBounds_toArray, List.set_cons_succ, List.set_cons_zero])
    refine wpE_only (i := 8) (oi := { dst := some 66, op := Go.Op.call { callee := Go.Callee.value (Go.Operand.func 23), args := #[Go.Operand.tmp 65], argTypes := #[34] }, type := 4, pos := "law.go:85", after := #[{ on := 7, ground := Go.Ground.data }, { on := 5, ground := Go.Ground.chain }, { on := 5, ground := Go.Ground.guard }], guard := some (5, true) }) rfl (by kernel_rfl) (by rfl) (fun K hK => ?_)
    go_simp; refine HSa.out.mono ?_; rintro x w6 ⟨rfl, own6, hS6⟩
    have hD6 := H5.out.1.none_ hS6
    have hS' : pS xo p q rp p2 w6 ∧ pT q t2 (.slice A5 u5.l.length cap5) w6 := ⟨hS.1.upd hS6.upd, hS.2.upd hS6.upd⟩
    have HEn := Lib.hid (io_Entries hD6.pa.u hD6.pa.t 50)
    have H6 := Lib.hid (And.intro hD6 (And.intro (H5.out.2.1.step hS6 (fun h => h)) H5.out.2.2))
    clear hS HSa H5 hS6 hD6
    have hS := hS'
    clear hS'
    refine hK _ _ hS ?_; clear hK K
    (try simp only [Act.put, List.setIfInBounds_toArray, List.set_cons_succ, List.set_cons_zero])
    refine wpE_take (i := 9) (oi := { dst := some 67, op := Go.Op.pick (Go.Operand.tmp 63) (Go.Operand.tmp 66) (Go.Operand.const (Go.Value.bool false)), type := 4, pos := "law.go:85", after := #[{ on := 5, ground := Go.Ground.data }, { on := 8, ground := Go.Ground.data }], guard := none }) (v := .bool true) rfl (by kernel_rfl) (fun _ _ _ h => h) (Or.inl ⟨by rfl, fun W hW => ?_⟩) hS ?_
    · obtain ⟨⟨⟨hw0, hw1, hw2, hw3⟩, hw4⟩, hz⟩ := hW; (try obtain ⟨⟨hz1, hz2⟩, hz3, hz4⟩ := hz); go_simp; (try go_bits); (try rw [if_pos (by omega)]); (try with_reducible rfl)
    (try simp only [Act.put, List.setIfInBounds_toArray, List.set_cons_succ, List.set_cons_zero])
    refine wpE_take (i := 10) (oi := { dst := some 68, op := Go.Op.move (Go.Operand.tmp 67), type := 4, pos := "law.go:85", after := #[{ on := 9, ground := Go.Ground.data }, { on := 8, ground := Go.Ground.chain }], guard := none }) (v := .bool true) rfl (by kernel_rfl) (fun _ _ _ h => h) (Or.inl ⟨by rfl, fun W hW => ?_⟩) hS ?_
    · obtain ⟨⟨⟨hw0, hw1, hw2, hw3⟩, hw4⟩, hz⟩ := hW; (try obtain ⟨⟨hz1, hz2⟩, hz3, hz4⟩ := hz); go_simp; (try go_bits); (try rw [if_pos (by omega)]); (try with_reducible rfl)
    (try simp only [Act.put, List.setIfInBounds_toArray, List.set_cons_succ, List.set_cons_zero])
    refine wpE_take (i := 11) (oi := { dst := some 69, op := Go.Op.fieldAddr 36 (Go.Operand.tmp 7) 0, type := 0, pos := "law.go:85", after := #[{ on := 10, ground := Go.Ground.guard }], guard := some (10, true) }) (v := ?_) rfl (by kernel_rfl) (fun _ _ _ h => h) (Or.inl ⟨by rfl, fun W hW => ?_⟩) hS ?_
    rotate_left
    · obtain ⟨⟨⟨hw0, hw1, hw2, hw3⟩, hw4⟩, hz⟩ := hW; (try obtain ⟨⟨hz1, hz2⟩, hz3, hz4⟩ := hz); go_simp; (try go_bits); (try rw [if_pos (by omega)]); (try with_reducible rfl)
    (try simp only [Act.put, List.setIfInBounds_toArray, List.set_cons_succ, List.set_cons_zero])
    refine wpE_take (i := 12) (oi := { dst := some 70, op := Go.Op.load 29 (Go.Operand.tmp 69), type := 29, pos := "law.go:85", after := #[{ on := 11, ground := Go.Ground.data }, { on := 10, ground := Go.Ground.guard }], guard := some (10, true) }) (v := ?_) rfl (by kernel_rfl) (fun _ _ _ h => h) (Or.inl ⟨by rfl, fun W hW => ?_⟩) hS ?_
    rotate_left
    · obtain ⟨⟨⟨hw0, hw1, hw2, hw3⟩, hw4⟩, hz⟩ := hW; (try obtain ⟨⟨hz1, hz2⟩, hz3, hz4⟩ := hz); go_simp; (try go_bits); (try rw [if_pos (by omega)]); (try with_reducible rfl)
    (try simp only [Act.put, List.setIfInBounds_toArray, List.set_cons_succ, List.set_cons_zero])
    refine wpE_take (i := 14) (oi := { dst := some 72, op := Go.Op.fieldAddr 36 (Go.Operand.tmp 7) 1, type := 0, pos := "law.go:85", after := #[{ on := 10, ground := Go.Ground.guard }], guard := some (10, true) }) (v := ?_) rfl (by kernel_rfl) (fun _ _ _ h => h) (Or.inl ⟨by rfl, fun W hW => ?_⟩) hS ?_
    rotate_left
    · obtain ⟨⟨⟨hw0, hw1, hw2, hw3⟩, hw4⟩, hz⟩ := hW; (try obtain ⟨⟨hz1, hz2⟩, hz3, hz4⟩ := hz); go_simp; (try go_bits); (try rw [if_pos (by omega)]); (try with_reducible rfl)
    (try simp only [Act.put, List.setIfInBounds_toArray, List.set_cons_succ, List.set_cons_zero])
    refine wpE_take (i := 15) (oi := { dst := some 73, op := Go.Op.load 30 (Go.Operand.tmp 72), type := 30, pos := "law.go:85", after := #[{ on := 14, ground := Go.Ground.data }, { on := 10, ground := Go.Ground.guard }], guard := some (10, true) }) (v := ?_) rfl (by kernel_rfl) (fun _ _ _ h => h) (Or.inl ⟨by rfl, fun W hW => ?_⟩) hS ?_
    rotate_left
    · obtain ⟨⟨⟨hw0, hw1, hw2, hw3⟩, hw4⟩, hz⟩ := hW; (try obtain ⟨⟨hz1, hz2⟩, hz3, hz4⟩ := hz); go_simp; (try go_bits); (try rw [if_pos (by omega)]); (try with_reducible rfl)
    (try simp only [Act.put, List.setIfInBounds_toArray, List.set_cons_succ, List.set_cons_zero])
    refine wpE_take (i := 16) (oi := { dst := some 74, op := Go.Op.nilCheck (Go.Operand.tmp 73), type := 0, pos := "law.go:85", after := #[{ on := 15, ground := Go.Ground.data }, { on := 10, ground := Go.Ground.guard }], guard := some (10, true) }) (v := ?_) rfl (by kernel_rfl) (fun _ _ _ h => h) (Or.inl ⟨by rfl, fun W hW => ?_⟩) hS ?_
    rotate_left
    · obtain ⟨⟨⟨hw0, hw1, hw2, hw3⟩, hw4⟩, hz⟩ := hW; (try obtain ⟨⟨hz1, hz2⟩, hz3, hz4⟩ := hz); go_simp; (try go_bits); (try rw [if_pos (by omega)]); (try with_reducible rfl)
    (try simp only [Act.put, List.setIfInBounds_toArray, List.set_cons_succ, List.set_cons_zero])
    refine wpE_take (i := 17) (oi := { dst := some 75, op := Go.Op.fieldAddr 87 (Go.Operand.tmp 74) 1, type := 0, pos := "law.go:85", after := #[{ on := 16, ground := Go.Ground.data }, { on := 10, ground := Go.Ground.guard }], guard := some (10, true) }) (v := ?_) rfl (by kernel_rfl) (fun _ _ _ h => h) (Or.inl ⟨by rfl, fun W hW => ?_⟩) hS ?_
    rotate_left
    · obtain ⟨⟨⟨hw0, hw1, hw2, hw3⟩, hw4⟩, hz⟩ := hW; (try obtain ⟨⟨hz1, hz2⟩, hz3, hz4⟩ := hz); go_simp; (try go_bits); (try rw [if_pos (by omega)]); (try with_reducible rfl)
    (try simp only [Act.put, List.setIfInBounds_toArray, List.set_cons_succ, List.set_cons_zero])
    refine wpE_take (i := 18) (oi := { dst := some 76, op := Go.Op.load 83 (Go.Operand.tmp 75), type := 83, pos := "law.go:85", after := #[{ on := 17, ground := Go.Ground.data }, { on := 10, ground := Go.Ground.guard }], guard := some (10, true) }) (v := ?_) rfl (by kernel_rfl) (fun _ _ _ h => h) (Or.inl ⟨by rfl, fun W hW => ?_⟩) hS ?_
    rotate_left
    · obtain ⟨⟨⟨hw0, hw1, hw2, hw3⟩, hw4⟩, hz⟩ := hW; (try obtain ⟨⟨hz1, hz2⟩, hz3, hz4⟩ := hz); go_simp; (try go_bits); (try rw [if_pos (by omega)]); (try with_reducible rfl)
    (try simp only [Act.put, List.setIfInBounds_toArray, List.set_cons_succ, List.set_cons_zero])
    refine wpE_take (i := 19) (oi := { dst := some 77, op := Go.Op.nilCheck (Go.Operand.tmp 76), type := 0, pos := "law.go:85", after := #[{ on := 18, ground := Go.Ground.data }, { on := 10, ground := Go.Ground.guard }], guard := some (10, true) }) (v := ?_) rfl (by kernel_rfl) (fun _ _ _ h => h) (Or.inl ⟨by rfl, fun W hW => ?_⟩) hS ?_
    rotate_left
    · obtain ⟨⟨⟨hw0, hw1, hw2, hw3⟩, hw4⟩, hz⟩ := hW; (try obtain ⟨⟨hz1, hz2⟩, hz3, hz4⟩ := hz); go_simp; (try go_bits); (try rw [if_pos (by omega)]); (try with_reducible rfl)
    (try simp only [Act.put, List.setIfInBounds_toArray, List.set_cons_succ, List.set_cons_zero])
    refine wpE_take (i := 20) (oi := { dst := some 78, op := Go.Op.fieldAddr 82 (Go.Operand.tmp 77) 1, type := 0, pos := "law.go:85", after := #[{ on := 19, ground := Go.Ground.data }, { on := 10, ground := Go.Ground.guard }], guard := some (10, true) }) (v := ?_) rfl (by kernel_rfl) (fun _ _ _ h => h) (Or.inl ⟨by rfl, fun W hW => ?_⟩) hS ?_
    rotate_left
    · obtain ⟨⟨⟨hw0, hw1, hw2, hw3⟩, hw4⟩, hz⟩ := hW; (try obtain ⟨⟨hz1, hz2⟩, hz3, hz4⟩ := hz); go_simp; (try go_bits); (try rw [if_pos (by omega)]); (try with_reducible rfl)
    (try simp only [Act.put, List.setIfInBounds_toArray, List.set_cons_succ, List.set_cons_zero])
    refine wpE_take (i := 21) (oi := { dst := some 79, op := Go.Op.load 79 (Go.Operand.tmp 78), type := 79, pos := "law.go:85", after := #[{ on := 20, ground := Go.Ground.data }, { on := 10, ground := Go.Ground.guard }], guard := some (10, true) }) (v := ?_) rfl (by kernel_rfl) (fun _ _ _ h => h) (Or.inl ⟨by rfl, fun W hW => ?_⟩) hS ?_
    rotate_left
    · obtain ⟨⟨⟨hw0, hw1, hw2, hw3⟩, hw4⟩, hz⟩ := hW; (try obtain ⟨⟨hz1, hz2⟩, hz3, hz4⟩ := hz); go_simp; (try go_bits); (try rw [if_pos (by omega)]); (try with_reducible rfl)
    (try simp only [Act.put, List.setIfInBounds_toArray, List.set_cons_succ, List.set_cons_zero])
    refine wpE_only (i := 13) (oi := { dst := some 71, op := Go.Op.call { callee := Go.Callee.value (Go.Operand.func 26), args := #[Go.Operand.tmp 70], argTypes := #[29] }, type := 79, pos := "law.go:85", after := #[{ on := 12, ground := Go.Ground.data }, { on := 10, ground := Go.Ground.chain }, { on := 10, ground := Go.Ground.guard }], guard := some (10, true) }) rfl (by kernel_rfl) (by rfl) (fun K hK => ?_)
    go_simp; refine HEn.out.mono ?_; rintro x w7 ⟨v7, rfl, hS7, hR7⟩
    obtain ⟨A7, cap7, hv7, _⟩ := hR7.form
    subst hv7
    have hr1 := hR7.reads rfl
    have hr2 := (H6.out.2.1.step hS7 (fun h => h)).reads rfl
    have HST := Lib.hid (same_trans (cb := cap5) (ca := cap7) (Nat.le_trans H6.out.2.2 (by decide)) hr1 hr2)
    have hS' : pS xo p q rp p2 w7 ∧ pT q t2 (.slice A5 u5.l.length cap5) w7 := ⟨hS.1.upd hS7.upd, hS.2.upd hS7.upd⟩
    have H7 := Lib.hid (H6.out.1.none_ hS7).upd
    clear hS HEn H6 hS7 hR7 hr1 hr2
    have hS := hS'
    clear hS'
    refine hK _ _ hS ?_; clear hK K
    (try simp only [Act.put, List.setIfInBounds_toArray, List.set_cons_succ, List.set_cons_zero])
    refine wpE_only (i := 22) (oi := { dst := some 80, op := Go.Op.call { callee := Go.Callee.value (Go.Operand.func 25), args := #[Go.Operand.tmp 71, Go.Operand.tmp 79], argTypes := #[79, 79] }, type := 4, pos := "law.go:85", after := #[{ on := 13, ground := Go.Ground.data }, { on := 21, ground := Go.Ground.data }, { on := 13, ground := Go.Ground.chain }, { on := 10, ground := Go.Ground.guard }], guard := some (10, true) }) rfl (by kernel_rfl) (by rfl) (fun K hK => ?_)
    go_simp; refine HST.out.mono ?_; rintro x w8 ⟨rfl, qq, rfl⟩
    have hS' : pS xo p q rp p2 (w7.drewN qq) ∧ pT q t2 (.slice A5 u5.l.length cap5) (w7.drewN qq) := hS
    have H8 := Lib.hid (H7.out.drewN qq)
    clear hS HST H7
    have hS := hS'
    clear hS'
    refine hK _ _ hS ?_; clear hK K
    (try simp only [Act.put, List.setIfInBounds_toArray, List.set_cons_succ, List.set_cons_zero])
    refine wpE_take (i := 23) (oi := { dst := some 81, op := Go.Op.pick (Go.Operand.tmp 68) (Go.Operand.tmp 80) (Go.Operand.const (Go.Value.bool false)), type := 4, pos := "law.go:85", after := #[{ on := 10, ground := Go.Ground.data }, { on := 22, ground := Go.Ground.data }], guard := none }) (v := .bool true) rfl (by kernel_rfl) (fun _ _ _ h => h) (Or.inl ⟨by rfl, fun W hW => ?_⟩) hS ?_
    · obtain ⟨⟨⟨hw0, hw1, hw2, hw3⟩, hw4⟩, hz⟩ := hW; (try obtain ⟨⟨hz1, hz2⟩, hz3, hz4⟩ := hz); go_simp; (try go_bits); (try rw [if_pos (by omega)]); (try with_reducible rfl)
    (try simp only [Act.put, List.setIfInBounds_toArray, List.set_cons_succ, List.set_cons_zero])
    refine wpE_take (i := 24) (oi := { dst := some 82, op := Go.Op.move (Go.Operand.tmp 81), type := 4, pos := "law.go:85", after := #[{ on := 23, ground := Go.Ground.data }, { on := 22, ground := Go.Ground.chain }], guard := none }) (v := .bool true) rfl (by kernel_rfl) (fun _ _ _ h => h) (Or.inl ⟨by rfl, fun W hW => ?_⟩) hS ?_
    · obtain ⟨⟨⟨hw0, hw1, hw2, hw3⟩, hw4⟩, hz⟩ := hW; (try obtain ⟨⟨hz1, hz2⟩, hz3, hz4⟩ := hz); go_simp; (try go_bits); (try rw [if_pos (by omega)]); (try with_reducible rfl)
    (try simp only [Act.put, List.setIfInBounds_toArray, List.set_cons_succ, List.set_cons_zero])
    refine wpE_only (i := 25) (oi := { dst := some 83, op := Go.Op.call { callee := Go.Callee.value (Go.Operand.func 19), args := #[], argTypes := #[] }, type := 4, pos := "law.go:85", after := #[{ on := 24, ground := Go.Ground.chain }, { on := 24, ground := Go.Ground.guard }], guard := some (24, true) }) rfl (by kernel_rfl) (by rfl) (fun K hK => ?_)
    go_simp; refine (awake08 _).mono ?_; rintro x w9 ⟨rfl, hU9⟩
    have hS' : pS xo p q rp p2 w9 ∧ pT q t2 (.slice A5 u5.l.length cap5) w9 := ⟨hS.1.upd hU9, hS.2.upd hU9⟩
    have H9 := Lib.hid (H8.out.trans' hU9 (fun _ _ e => e))
    clear hS H8 hU9
    have hS := hS'
    clear hS'
    refine hK _ _ hS ?_; clear hK K
    (try simp only [Act.put, List.setIfInBounds_toArray, List.set_cons_succ, List.set_cons_zero])
    refine wpE_take (i := 26) (oi := { dst := some 84, op := Go.Op.pick (Go.Operand.tmp 82) (Go.Operand.tmp 83) (Go.Operand.const (Go.Value.bool false)), type := 4, pos := "law.go:85", after := #[{ on := 24, ground := Go.Ground.data }, { on := 25, ground := Go.Ground.data }], guard := none }) (v := ?_) rfl (by kernel_rfl) (fun _ _ _ h => h) (Or.inl ⟨by rfl, fun W hW => ?_⟩) hS ?_
    rotate_left
    · obtain ⟨⟨⟨hw0, hw1, hw2, hw3⟩, hw4⟩, hz⟩ := hW; (try obtain ⟨⟨hz1, hz2⟩, hz3, hz4⟩ := hz); go_simp; (try go_bits); (try rw [if_pos (by omega)]); (try with_reducible rfl)
    (try simp only [Act.put, List.setIfInBounds_toArray, List.set_cons_succ, List.set_cons_zero])
    refine wpE_last (oi := { dst := some 6, op := Go.Op.assign (Go.Operand.tmp 84), type := 4, pos := "law.go:85", after := #[{ on := 26, ground := Go.Ground.data }, { on := 25, ground := Go.Ground.chain }, { on := 0, ground := Go.Ground.phase }, { on := 1, ground := Go.Ground.phase }, { on := 2, ground := Go.Ground.phase }, { on := 3, ground := Go.Ground.phase }, { on := 4, ground := Go.Ground.phase }, { on := 5, ground := Go.Ground.phase }, { on := 6, ground := Go.Ground.phase }, { on := 7, ground := Go.Ground.phase }, { on := 8, ground := Go.Ground.phase }, { on := 9, ground := Go.Ground.phase }, { on := 10, ground := Go.Ground.phase }, { on := 11, ground := Go.Ground.phase }, { on := 12, ground := Go.Ground.phase }, { on := 13, ground := Go.Ground.phase }, { on := 14, ground := Go.Ground.phase }, { on := 15, ground := Go.Ground.phase }, { on := 16, ground := Go.Ground.phase }, { on := 17, ground := Go.Ground.phase }, { on := 18, ground := Go.Ground.phase }, { on := 19, ground := Go.Ground.phase }, { on := 20, ground := Go.Ground.phase }, { on := 21, ground := Go.Ground.phase }, { on := 22, ground := Go.Ground.phase }, { on := 23, ground := Go.Ground.phase }, { on := 24, ground := Go.Ground.phase }, { on := 25, ground := Go.Ground.phase }, { on := 26, ground := Go.Ground.phase }], guard := none }) rfl (by kernel_rfl) (by kernel_rfl) (by rfl) (fun K hK => ?_)
    go_simp; (try go_bits); refine hK _ _ ?_; clear hK K
    go_wp2
    go_ret
    exact ⟨rfl, H9.out⟩
  · have HE := Lib.hid (eng_New_bad p rp dev hd w2)
    have HR := Lib.hid (ref08_New_bad q p2 dev hd w2)
    have H9 := Lib.hid hS12.upd
    clear hS1 hO1 hS2 hO2 hX2 hS12 HN HL
    go_wp2_with fail
    ((with_reducible refine HE.out.mono ?_); rintro x wz ⟨rfl, rfl⟩)
    clear HE
    go_wp2_with fail
    ((with_reducible refine HR.out.mono ?_); rintro x wz ⟨rfl, rfl⟩)
    clear HR
    go_wp2_with fail
    ((with_reducible refine (awake08 _).mono ?_); rintro x w13 ⟨rfl, hU13⟩)
    have HF := Lib.hid (H9.out.trans' hU13 (fun _ _ e => e))
    clear hU13 H9
    go_wp2
    go_ret
    exact ⟨rfl, HF.out⟩
theorem plays_callsI (w : World) (dev : Int) (hdv : -9223372036854775808 ≤ dev ∧ dev ≤ 9223372036854775807) (v : Value) (cs : List (Int × Nat)) (hv : CellsAt w v cs) (hlen : cs.length ≤ maxLen) (hb : ∀ x ∈ cs, -9223372036854775808 ≤ x.1 ∧ x.1 ≤ 9223372036854775807 ∧ x.2 < 18446744073709551616)
    (A : Option Addr) (cap : Nat) (L : List Op8) (hL : Ops8At w (.slice A L.length cap) L) (hLb : ∀ o ∈ L, Op8B o) (hLl : L.length * 96 ≤ 140737488351232) :
    Calls Tryz.prog 5 #[.int .i64 dev, v, .slice A L.length cap] w fun x w' => x = .returned (.bool true) ∧ Upd (fun _ => False) w w' :=
  plays_calls w dev hdv v cs hv (by unfold maxLen at hlen; omega) hb A cap L hL hLb (by omega)
end Go.Proofs.YtonhlgfgbdiapaaGreat
