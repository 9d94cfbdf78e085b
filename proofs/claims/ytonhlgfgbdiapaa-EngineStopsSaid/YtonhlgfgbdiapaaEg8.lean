import Derived.Test.YtonhlgfgbdiapaaEg7
/- citadellaw08: flat, awake. -/
namespace Go.Proofs.Ytonhlgfgbdiapaa
set_option linter.unusedVariables false
set_option linter.unusedSimpArgs false
open Go.RowKit
set_option maxRecDepth 100000
theorem results_tmp_cell_tmp_row {P : Program} {fn : Func} {q p u : Tmp} {ty : TypeId} (h : fn.results = #[.tmp q, .cell p ty, .tmp u]) (tmps : Array Value) (w : World) (g : Nat) (t : TypeId) (cs : Array Value) (d : TypeDesc)
    (hp : tmps.getD p undef = .pointer (some ⟨g, 0, none⟩)) (hg : Blk w g t cs)
    (hu : P.underlying ty = some d) (hd : (match d with | .struct _ | .array _ _ => true | _ => false) = true) (hi : (P.info? ty).map (·.size) = some cs.size) :
    (results fn tmps).run P w = .ok (.tuple #[tmps.getD q undef, .agg cs, tmps.getD u undef]) w := by
  simp only [results, h]
  simp [Sem.run_bind, Result.andThen]
  have hp' : tmps[p]?.getD undef = .pointer (some ⟨g, 0, none⟩) := by rw [← hp]; simp
  rw [hp']
  simp [asAddr, run_loadVar_row w g t ty cs (0, 0) d hg hu hd hi, Result.andThen]
set_option maxHeartbeats 1000000 in
/-- an engine over a memory of four pages, with cells in it -/
theorem flat08 (w : World) (v : Value) (cs : List (Int × Nat)) (hv : CellsAt w v cs) (hlen : cs.length ≤ 9223372036854775807) (hb : ∀ x ∈ cs, -9223372036854775808 ≤ x.1 ∧ x.1 ≤ 9223372036854775807 ∧ x.2 < 18446744073709551616) :
    Calls Try.prog 7 #[v] w fun x w' => ∃ e p p2 own', x = .returned (.tuple #[.pointer (some ⟨e, 0, none⟩), .agg #[.pointer (some ⟨p, 0, none⟩), .pointer (some ⟨p2, 0, none⟩)], .bool true]) ∧ FE w own' w' e p p2 0 4 eg0 (cellsM 4 (fun _ => 0) cs) (cellsM 4 (fun _ => 0) cs) := by
  have hS0 : Step (fun _ => False) (fun _ => 0) w (ext (fun _ => 0) w 9) (w.alloc (.cells #[.pointer none, .pointer none] 27)) := ⟨(Upd.refl _ _).alloc _, fun b hb => ext_old _ _ _ hb⟩
  have hB0 := Blk.new w 27 #[.pointer none, .pointer none]
  have ho0 : ext (fun _ => 0) w 9 w.heap.size = 9 := ext_new _ _ _ (Nat.le_refl _)
  have hMm := law_MemoryC 4 (by decide) (by decide) (ext (fun _ => 0) w 9) 1 2 (by decide) (w.alloc (.cells #[.pointer none, .pointer none] 27)) v cs (hv.upd ((Upd.refl _ _).alloc _)) hlen hb
  rw [show ((4 : Nat) : Int) = 4 from rfl] at hMm
  have HM := Lib.hid hMm
  have H0 := Lib.hid (And.intro hS0 (And.intro hB0 ho0))
  clear hS0 hB0 ho0 hMm hb
  obtain ⟨A0, cap0, rfl, _⟩ := hv
  go_enter Try.func7, Try.ntmps7
  go_wp2_with fail
  ((with_reducible refine HM.out.mono ?_); rintro x w1 ⟨p1, p2, own1, rfl, hS1, hm1, hm2⟩)
  have hS2 : Step (fun _ => False) own1 w1 (ext own1 w1 9) (w1.alloc (.cells #[.pointer (some ⟨p1, 0, none⟩), .pointer (some ⟨p2, 0, none⟩)] 27)) := ⟨(Upd.refl _ _).alloc _, fun b hb => ext_old _ _ _ hb⟩
  have hF := eng_Flat (ext own1 w1 9) 3 p1 (w1.alloc (.cells #[.pointer (some ⟨p1, 0, none⟩), .pointer (some ⟨p2, 0, none⟩)] 27))
  have HF := Lib.hid hF
  have hb1 := hS1.blk H0.out.2.1 H0.out.2.2 (fun h => h)
  have hb2 := hS2.blk hb1.1 hb1.2 (fun h => h)
  have H1 := Lib.hid (And.intro ((H0.out.1.trans hS1).trans hS2) (And.intro (hm1.step hS2 (fun h => h)) (And.intro (hm2.step hS2 (fun h => h)) (And.intro hb2 (And.intro (Blk.new w1 27 #[.pointer (some ⟨p1, 0, none⟩), .pointer (some ⟨p2, 0, none⟩)]) (show ext own1 w1 9 w1.heap.size = 9 from ext_new _ _ _ (Nat.le_refl _)))))))
  have hl1 := hb1.1.lt
  clear hS1 hm1 hm2 hS2 hF hb1 hb2 HM H0
  go_wp2_with fail
  ((with_reducible refine HF.out.mono ?_); rintro x w3 ⟨e, own3, rfl, hS3, hE3⟩)
  obtain ⟨hb, ho⟩ := hS3.blk H1.out.2.2.2.1.1 H1.out.2.2.2.1.2 (fun h => h)
  obtain ⟨hc, hco⟩ := hS3.blk H1.out.2.2.2.2.1 H1.out.2.2.2.2.2 (fun h => h)
  have hFE : FE w own3 w3 e p1 p2 0 4 eg0 (cellsM 4 (fun _ => 0) cs) (cellsM 4 (fun _ => 0) cs) := ⟨(H1.out.1.trans hS3).mono (fun _ h => h.elim), H1.out.2.1.step hS3 (fun h => h), H1.out.2.2.1.step hS3 (fun h => h), hE3, EgOk.init⟩
  have hU : Upd (· = w.heap.size) w3 ((w3.setCell ⟨w.heap.size, 0, none⟩ (.pointer (some ⟨p1, 0, none⟩))).setCell ⟨w.heap.size, 1, none⟩ (.pointer (some ⟨p2, 0, none⟩))) := ((Upd.refl (· = w.heap.size) w3).setCell (p := ⟨w.heap.size, 0, none⟩) (.inl rfl) _).setCell (p := ⟨w.heap.size, 1, none⟩) (.inl rfl) _
  have hSs : Step (· = 9) own3 w3 own3 ((w3.setCell ⟨w.heap.size, 0, none⟩ (.pointer (some ⟨p1, 0, none⟩))).setCell ⟨w.heap.size, 1, none⟩ (.pointer (some ⟨p2, 0, none⟩))) := ⟨hU.mono (fun i _ hi => by rw [hi]; exact ho), fun _ _ => rfl⟩
  have hFE2 := hFE.step hSs (by decide) (by decide) (by decide) (by decide)
  have hBl := (hb.set_ 0 (.pointer (some ⟨p1, 0, none⟩))).set_ 1 (.pointer (some ⟨p2, 0, none⟩))
  have HFE := Lib.hid (And.intro hFE2 hBl)
  have x0 := hc.cell 0
  have x1 := hc.cell 1
  have t0 := hb.cell 0
  have t1 := hb.cell 1
  simp only [List.getElem?_toArray, List.getElem?_cons_zero, List.getElem?_cons_succ] at x0 x1 t0 t1
  have g0 := hb.frozen 0
  have g1 := hb.frozen 1
  have hlb := hb.lt
  have hne : w.heap.size ≠ w1.heap.size := by omega
  clear hS3 hE3 hb ho hc hco hFE hU hSs hFE2 hBl H1 HF
  generalize w.heap.size = lb at *
  generalize w1.heap.size = xb at *
  go_wp2_with fail
  refine wpE_region (S := fun (W' : World) => W'.cell? ⟨xb, 0, none⟩ = some (.pointer (some ⟨p1, 0, none⟩)) ∧ W'.cell? ⟨xb, 1, none⟩ = some (.pointer (some ⟨p2, 0, none⟩))) (s := 6) (by kernel_rfl) ?_
  have hS : (fun (W' : World) => W'.cell? ⟨xb, 0, none⟩ = some (.pointer (some ⟨p1, 0, none⟩)) ∧ W'.cell? ⟨xb, 1, none⟩ = some (.pointer (some ⟨p2, 0, none⟩))) _ := ⟨x0, x1⟩
  refine wpE_take (i := 0) (oi := { dst := some 19, op := Go.Op.move (Go.Operand.tmp 7), type := 23, pos := "outright.go:16", after := #[], guard := none }) (v := ?_) rfl (by kernel_rfl) (fun _ _ _ h => h) (Or.inl ⟨by rfl, fun W hW => ?_⟩) hS ?_
  rotate_left
  · obtain ⟨hw1, hw2⟩ := hW; go_simp; (try go_bits); (try rw [if_pos (by omega)]); (try with_reducible rfl)
  (try simp only [Act.put, List.setIfInBounds_toArray, List.set_cons_succ, List.set_cons_zero])
  refine wpE_take (i := 1) (oi := { dst := some 20, op := Go.Op.load 27 (Go.Operand.tmp 5), type := 27, pos := "outright.go:16", after := #[{ on := 4, ground := Go.Ground.gcOnly Go.Departure.lateStores }], guard := none }) (v := .agg #[.pointer (some ⟨p1, 0, none⟩), .pointer (some ⟨p2, 0, none⟩)]) rfl (by kernel_rfl) (fun _ _ _ h => h) (Or.inl ⟨by rfl, fun W hW => ?_⟩) hS ?_
  · obtain ⟨hw1, hw2⟩ := hW; go_simp; (try go_bits); (try rw [if_pos (by omega)]); (try with_reducible rfl)
  (try simp only [Act.put, List.setIfInBounds_toArray, List.set_cons_succ, List.set_cons_zero])
  refine wpE_take (i := 2) (oi := { dst := some 21, op := Go.Op.move (Go.Operand.tmp 7), type := 23, pos := "outright.go:16", after := #[{ on := 5, ground := Go.Ground.gcOnly Go.Departure.lateStores }], guard := none }) (v := ?_) rfl (by kernel_rfl) (fun _ _ _ h => h) (Or.inl ⟨by rfl, fun W hW => ?_⟩) hS ?_
  rotate_left
  · obtain ⟨hw1, hw2⟩ := hW; go_simp; (try go_bits); (try rw [if_pos (by omega)]); (try with_reducible rfl)
  (try simp only [Act.put, List.setIfInBounds_toArray, List.set_cons_succ, List.set_cons_zero])
  refine wpE_take (i := 3) (oi := { dst := some 22, op := Go.Op.binOp Go.BinOp.neq 23 (Go.Operand.tmp 21) (Go.Operand.const (Go.Value.pointer none)) 23, type := 4, pos := "outright.go:16", after := #[{ on := 2, ground := Go.Ground.data }, { on := 5, ground := Go.Ground.gcOnly Go.Departure.lateStores }], guard := none }) (v := .bool true) rfl (by kernel_rfl) (fun _ _ _ h => h) (Or.inl ⟨by rfl, fun W hW => ?_⟩) hS ?_
  · obtain ⟨hw1, hw2⟩ := hW; go_simp; (try go_bits); (try rw [if_pos (by omega)]); (try with_reducible rfl)
  (try simp only [Act.put, List.setIfInBounds_toArray, List.set_cons_succ, List.set_cons_zero])
  refine wpE_only (i := 4) (oi := { dst := some 2, op := Go.Op.assign (Go.Operand.tmp 19), type := 23, pos := "outright.go:16", after := #[{ on := 0, ground := Go.Ground.data }, { on := 0, ground := Go.Ground.phase }, { on := 1, ground := Go.Ground.textOnly Go.Departure.lateStores }, { on := 2, ground := Go.Ground.textOnly Go.Departure.lateStores }, { on := 3, ground := Go.Ground.textOnly Go.Departure.lateStores }], guard := none }) rfl (by kernel_rfl) (by rfl) (fun K hK => ?_)
  go_simp; (try go_bits); refine hK _ _ hS ?_; clear hK K
  (try simp only [Act.put, List.setIfInBounds_toArray, List.set_cons_succ, List.set_cons_zero])
  refine wpE_only (i := 5) (oi := { dst := none, op := Go.Op.store 27 (Go.Operand.tmp 3) (Go.Operand.tmp 20), type := 0, pos := "outright.go:16", after := #[{ on := 1, ground := Go.Ground.data }, { on := 4, ground := Go.Ground.chain }, { on := 0, ground := Go.Ground.phase }, { on := 1, ground := Go.Ground.phase }, { on := 2, ground := Go.Ground.textOnly Go.Departure.lateStores }, { on := 3, ground := Go.Ground.textOnly Go.Departure.lateStores }, { on := 4, ground := Go.Ground.phase }], guard := none }) rfl (by kernel_rfl) (by rfl) (fun K hK => ?_)
  go_simp; refine hK _ _ (by constructor <;> go_simp) ?_; clear hK K; have hS : (fun (W' : World) => W'.cell? ⟨xb, 0, none⟩ = some (.pointer (some ⟨p1, 0, none⟩)) ∧ W'.cell? ⟨xb, 1, none⟩ = some (.pointer (some ⟨p2, 0, none⟩))) ((w3.setCell ⟨lb, 0, none⟩ (.pointer (some ⟨p1, 0, none⟩))).setCell ⟨lb, 1, none⟩ (.pointer (some ⟨p2, 0, none⟩))) := by constructor <;> go_simp
  (try simp only [Act.put, List.setIfInBounds_toArray, List.set_cons_succ, List.set_cons_zero])
  refine wpE_last (oi := { dst := some 4, op := Go.Op.assign (Go.Operand.tmp 22), type := 4, pos := "outright.go:16", after := #[{ on := 3, ground := Go.Ground.data }, { on := 5, ground := Go.Ground.chain }, { on := 0, ground := Go.Ground.phase }, { on := 1, ground := Go.Ground.phase }, { on := 2, ground := Go.Ground.phase }, { on := 3, ground := Go.Ground.phase }, { on := 4, ground := Go.Ground.phase }, { on := 5, ground := Go.Ground.phase }], guard := none }) rfl (by kernel_rfl) (by kernel_rfl) (by rfl) (fun K hK => ?_)
  go_simp; (try go_bits); refine hK _ _ ?_; clear hK K
  go_wp2
  refine bodyPost_ret (results_tmp_cell_tmp_row rfl _ _ lb 27 #[.pointer (some ⟨p1, 0, none⟩), .pointer (some ⟨p2, 0, none⟩)] _ rfl HFE.out.2 Try.underlying27 rfl (by kernel_rfl)) rfl ?_
  exact ⟨e, p1, p2, rfl, own3, HFE.out.1.drew⟩
/-- what awake's memory holds -/
def awM : Nat → Int := cellsM 2 (fun _ => 0) [(1, 77)]
theorem awM_eq : awM = put (fun _ => 0) 8 8 77 := rfl
theorem aw_rd : rdR 0 2 awM 8 8 = (77, true) := by
  unfold rdR
  rw [if_pos (by decide), awM_eq]
  show (num (put (fun _ => 0) 8 8 77) 8 8, true) = _
  rw [num_put]
  rfl
def awS : Eg := begE 8 4096 8
theorem aw_fit : fitJ 0 2 8 4096 0 = true := by decide
theorem aw_st : awS.st = 1 := by unfold awS; rw [begE_st]; decide
theorem aw_step : (stepS 0 2 awS).st = 2 := by
  show (stepS 0 2 (begE 8 4096 8)).st = 2
  rw [(run_go (RunE.beg 8 4096 8) aw_st (j := 0) (by rw [begE_eq]) aw_fit).1]
  rfl
theorem aw_mem : rdR 0 2 (stepM 0 2 awS awM) 4096 8 = (77, true) := by
  have h := run_mem (base := 0) (n := 2) awM (RunE.beg 8 4096 8) aw_st (j := 0) (by rw [begE_eq]) aw_fit
  rw [show stepM 0 2 awS awM = _ from h]
  rw [show (((8 + 8 * 0) % 18446744073709551616 : Nat) : Int) = 8 from rfl, show (((4096 + 8 * 0) % 18446744073709551616 : Nat) : Int) = 4096 from rfl, aw_rd]
  unfold wrR rdR
  rw [if_pos (by decide), if_pos (by decide)]
  show (num (put awM 4096 8 77) 4096 8, true) = _
  rw [num_put]
  rfl
set_option maxHeartbeats 2000000 in
theorem awake08 (w : World) : Calls Try.prog 13 #[] w fun x w' => x = .returned (.bool true) ∧ Upd (fun _ => False) w w' := by
  have hS0 : Step (fun _ => False) (fun _ => 0) w (ext (fun _ => 0) w 9) (w.alloc (.cells #[.int .i64 1, .int .u64 77] 47)) := ⟨(Upd.refl _ _).alloc _, fun b hb => ext_old _ _ _ hb⟩
  have hB0 := Blk.new w 47 #[.int .i64 1, .int .u64 77]
  have hC : CellsAt (w.alloc (.cells #[.int .i64 1, .int .u64 77] 47)) (.slice (some ⟨w.heap.size, 0, none⟩) 1 1) [(1, 77)] := by
    refine ⟨_, 1, rfl, fun _ => ⟨w.heap.size, 0, rfl, hB0.lt, fun k x hx => ?_⟩⟩
    have hk : k = 0 := by
      rcases Nat.eq_zero_or_pos k with h | h
      · exact h
      · rw [List.getElem?_eq_none (by simp; omega)] at hx; cases hx
    subst hk
    cases hx
    exact ⟨hB0.cell 0, hB0.cell 1⟩
  have hMm := law_MemoryC 2 (by decide) (by decide) (ext (fun _ => 0) w 9) 1 2 (by decide) _ _ _ hC (by decide) (by intro x hx; simp at hx; subst hx; decide)
  rw [show ((2 : Nat) : Int) = 2 from rfl] at hMm
  have HM := Lib.hid hMm
  have HS0 := Lib.hid hS0
  clear hS0 hB0 hC hMm
  go_enter Try.func13, Try.ntmps13
  go_wp2_with fail
  ((with_reducible refine HM.out.mono ?_); rintro x w1 ⟨p1, p2, own1, rfl, hS1, hm1, hm2⟩)
  have hS2 : Step (fun _ => False) own1 w1 (ext own1 w1 9) (w1.alloc (.cells #[.pointer (some ⟨p1, 0, none⟩), .pointer (some ⟨p2, 0, none⟩)] 27)) := ⟨(Upd.refl _ _).alloc _, fun b hb => ext_old _ _ _ hb⟩
  have HF := Lib.hid (eng_Flat (ext own1 w1 9) 3 p1 (w1.alloc (.cells #[.pointer (some ⟨p1, 0, none⟩), .pointer (some ⟨p2, 0, none⟩)] 27)))
  have H1 := Lib.hid (And.intro ((HS0.out.trans hS1).trans hS2) (And.intro (hm1.step hS2 (fun h => h)) (And.intro (hm2.step hS2 (fun h => h)) (And.intro (Blk.new w1 27 #[.pointer (some ⟨p1, 0, none⟩), .pointer (some ⟨p2, 0, none⟩)]) (show ext own1 w1 9 w1.heap.size = 9 from ext_new _ _ _ (Nat.le_refl _))))))
  clear hS1 hm1 hm2 hS2 HM HS0
  go_wp2_with fail
  ((with_reducible refine HF.out.mono ?_); rintro x w3 ⟨e, own3, rfl, hS3, hE3⟩)
  have hc := hS3.blk H1.out.2.2.2.1 H1.out.2.2.2.2 (fun h => h)
  have hFE : FE w own3 w3 e p1 p2 0 2 eg0 awM awM := ⟨(H1.out.1.trans hS3).mono (fun _ h => h.elim), H1.out.2.1.step hS3 (fun h => h), H1.out.2.2.1.step hS3 (fun h => h), hE3, EgOk.init⟩
  have x0 := hc.1.cell 0
  simp only [List.getElem?_toArray, List.getElem?_cons_zero] at x0
  have HT := Lib.hid hc
  have HFE := Lib.hid hFE
  have HW := Lib.hid (hFE.writeL 0 0 rfl (by decide) 8 (by decide) (by decide) 8 8 rfl (by decide) true (by decide))
  clear hS3 hE3 hc hFE H1 HF
  generalize w1.heap.size = xb at *
  go_wp2_with fail
  ((with_reducible refine HW.out.mono ?_); rintro x w4 ⟨rfl, own4, hS4, hFE⟩)
  clear x0
  have hc := hS4.blk HT.out.1 HT.out.2 (by decide)
  have x0 := hc.1.cell 0
  simp only [List.getElem?_toArray, List.getElem?_cons_zero] at x0
  clear HT HW HFE hS4
  have HT := Lib.hid hc
  have HW := Lib.hid (hFE.writeL 8 8 rfl (by decide) 8 (by decide) (by decide) 4096 4096 rfl (by decide) true (by decide))
  clear hc hFE
  go_wp2_with fail
  ((with_reducible refine HW.out.mono ?_); rintro x w5 ⟨rfl, own5, hS5, hFE⟩)
  clear x0
  have hc := hS5.blk HT.out.1 HT.out.2 (by decide)
  have x0 := hc.1.cell 0
  simp only [List.getElem?_toArray, List.getElem?_cons_zero] at x0
  clear HT HW hS5
  have HT := Lib.hid hc
  have HW := Lib.hid (hFE.writeL 16 16 rfl (by decide) 8 (by decide) (by decide) 8 8 rfl (by decide) true (by decide))
  clear hc hFE
  go_wp2_with fail
  ((with_reducible refine HW.out.mono ?_); rintro x w6 ⟨rfl, own6, hS6, hFE⟩)
  clear x0
  have hc := hS6.blk HT.out.1 HT.out.2 (by decide)
  have x0 := hc.1.cell 0
  simp only [List.getElem?_toArray, List.getElem?_cons_zero] at x0
  clear HT HW hS6
  have HT := Lib.hid hc
  have HW := Lib.hid (hFE.writeL 24 24 rfl (by decide) 8 (by decide) (by decide) 1 1 rfl (by decide) true (by decide))
  clear hc hFE
  go_wp2_with fail
  ((with_reducible refine HW.out.mono ?_); rintro x w7 ⟨rfl, own7, hS7, hFE⟩)
  rw [tellE, wr24 _ 8 (.inr rfl)] at hFE
  have hFE : FE w own7 w7 e p1 p2 0 2 awS awM awM := hFE
  clear x0
  have hc := hS7.blk HT.out.1 HT.out.2 (by decide)
  clear HT HW hS7
  have hBu := hFE.busy
  rw [decide_eq_true aw_st] at hBu
  have HBu := Lib.hid hBu
  have HSt := Lib.hid hFE.stepE
  have x0 := hc.1.cell 0
  simp only [List.getElem?_toArray, List.getElem?_cons_zero] at x0
  have HT := Lib.hid hc
  clear hc hFE hBu
  go_wp2_with fail
  ((with_reducible refine HBu.out.mono ?_); rintro x wz ⟨rfl, rfl⟩)
  clear HBu
  go_wp2_with fail
  ((with_reducible refine HSt.out.mono ?_); rintro x w8 ⟨rfl, own8, hS8, hFE⟩)
  clear x0
  have hc := hS8.blk HT.out.1 HT.out.2 (by decide)
  have hR := hFE.readR 4096 8 (by decide) (by decide) (by decide) (by decide)
  rw [aw_mem] at hR
  have x0 := hc.1.cell 0
  simp only [List.getElem?_toArray, List.getElem?_cons_zero] at x0
  have HR := Lib.hid hR
  have HFE := Lib.hid hFE
  clear hS8 hFE hR HT HSt hc
  go_wp2_with fail
  ((with_reducible refine HR.out.mono ?_); rintro x w9 ⟨rfl, hS9⟩)
  have hRd := (HFE.out.none_ hS9).readL 32 32 rfl (by decide) 8 (by decide) (by decide) 2 2 aw_step rfl true (by decide)
  have HRd := Lib.hid hRd
  clear hRd HFE HR hS9 x0
  go_wp2_with fail
  ((with_reducible refine HRd.out.mono ?_); rintro x w10 ⟨rfl, own10, hS10, hFE⟩)
  have HE := Lib.hid hFE.upd
  clear hFE hS10 HRd
  go_wp2
  go_ret
  exact ⟨rfl, HE.out⟩
end Go.Proofs.Ytonhlgfgbdiapaa
