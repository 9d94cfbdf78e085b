import Derived.Test.YtonhlgfgbdiapaaGreatRow
import Derived.Test.YtonhlgfgbdiapaaGreatMem
import Derived.Test.YtonhlgfgbdiapaaGreatChecked
/- The TLB (tlb.TLB): its lists of entries; left, Flush, FlushPage. -/
namespace Go.Proofs.YtonhlgfgbdiapaaGreat
set_option linter.unusedVariables false
set_option linter.unusedSimpArgs false
open Go.RowKit
set_option maxRecDepth 100000

/-- an entry: VMID, page, frame, rights -/
structure Tr where
  v : Int
  p : Int
  f : Int
  r : Int
deriving DecidableEq
def trC (t : Tr) : List Value := [.int .i64 t.v, .int .u64 t.p, .int .u64 t.f, .int .i64 t.r]
def trsC (l : List Tr) : List Value := l.flatMap trC
theorem trsC_len (l : List Tr) : (trsC l).length = l.length * 4 := by
  induction l with
  | nil => rfl
  | cons t l ih => show (trC t ++ trsC l).length = _; rw [List.length_append, ih]; simp [trC]; omega
theorem trsC_snoc (l : List Tr) (t : Tr) : trsC (l ++ [t]) = trsC l ++ trC t := by simp [trsC]
theorem trsC_drop (l : List Tr) : (trsC l).drop 4 = trsC (l.drop 1) := by
  cases l with
  | nil => rfl
  | cons t l => rfl
theorem trsC_at : ∀ (l : List Tr) (k : Nat) (t : Tr), l[k]? = some t → (trsC l)[k * 4]? = some (.int .i64 t.v) ∧ (trsC l)[k * 4 + 1]? = some (.int .u64 t.p) ∧ (trsC l)[k * 4 + 2]? = some (.int .u64 t.f) ∧ (trsC l)[k * 4 + 3]? = some (.int .i64 t.r) := by
  intro l
  induction l with
  | nil => intro k t h; cases h
  | cons x l ih =>
    intro k t h
    cases k with
    | zero =>
      simp at h; subst h
      exact ⟨rfl, rfl, rfl, rfl⟩
    | succ k =>
      have hk := ih k t (by simpa using h)
      have e : ∀ j, (trsC (x :: l))[(k + 1) * 4 + j]? = (trsC l)[k * 4 + j]? := by
        intro j
        show (trC x ++ trsC l)[(k + 1) * 4 + j]? = _
        rw [List.getElem?_append_right (by simp [trC]; omega)]
        congr 1
        simp [trC]; omega
      exact ⟨(e 0).trans hk.1, (e 1).trans hk.2.1, (e 2).trans hk.2.2.1, (e 3).trans hk.2.2.2⟩
theorem info_trans : (Tryz.prog.info? 153).map (fun i => (i.size, i.bytes)) = some (4, 32) := by kernel_rfl
theorem trans_parts : ∃ (i : TypeInfo) (z : Value), Tryz.prog.info? 153 = some i ∧ i.zero = some z ∧ i.size = 4 ∧ i.bytes = 32 ∧ z.cells.size = 4 := by
  have h : (Tryz.prog.info? 153).map (fun i => (i.zero, i.size, i.bytes)) = some (some (.agg #[.int .i64 0, .int .u64 0, .int .u64 0, .int .i64 0]), 4, 32) := by kernel_rfl
  obtain ⟨i, hi, hz, hs, hb⟩ := info_parts h
  exact ⟨i, _, hi, hz, hs, hb, rfl⟩
theorem Upd.frozen' {S : Nat → Prop} {w w' : World} (h : Upd S w w') {p : Addr} (hp : p.block < w.heap.size) (hs : ¬ S p.block) : w'.frozen? p = w.frozen? p := World.frozen?_of_block (h.block _ hp hs)
/-- the colours as they are, but that nothing old has the colour 0 -/
def up1 (own : Nat → Nat) (w : World) : Nat → Nat := fun b => if b < w.heap.size then own b + 1 else 0
theorem up1_old {own : Nat → Nat} {w : World} {b : Nat} (h : b < w.heap.size) : up1 own w b = own b + 1 := if_pos h
section
variable {own : Nat → Nat} {d : Nat} {w : World} {v : Value} {l : List Tr}
/-- what a step that makes memory alone says in the colours as they were -/
theorem up1_upd {own' : Nat → Nat} {w' : World} (h : Step (· = 0) (up1 own w) w own' w') : Upd (fun _ => False) w w' :=
  h.upd.mono (fun i hi e => by rw [up1_old hi] at e; omega)
theorem up1_row {e : TypeId} {size n : Nat} {xs : List Value} {own' : Nat → Nat} {w' : World} {v' : Value} (h : Step (· = 0) (up1 own w) w own' w') (hR : Rw e size own' 0 w' v' n xs) (d' : Nat) : Rw e size (ext own w d') d' w' v' n xs := by
  refine hR.recol (fun b e => ?_)
  refine ext_new _ _ _ ?_
  rcases Nat.lt_or_ge b w.heap.size with hb | hb
  · rw [h.old b hb, up1_old hb] at e; omega
  · exact hb
theorem step_alloc' (own : Nat → Nat) (w : World) (o : Obj) : Step (fun _ => False) own w (ext own w 1) (w.alloc o) := ⟨(Upd.refl _ _).alloc _, fun _ hb => ext_old _ _ _ hb⟩
theorem step_allocS (own : Nat → Nat) (w : World) (o : Obj) : Step (fun _ => False) own w own (w.alloc o) := ⟨(Upd.refl _ _).alloc _, fun _ _ => rfl⟩
theorem cells_new4 (w : World) (t : TypeId) (a b c e : Value) : ∀ j u, [a, b, c, e][j]? = some u → (w.alloc (.cells #[a, b, c, e] t)).cell? ((⟨w.heap.size, 0, none⟩ : Addr).add j) = some u := by
  intro j u h
  rw [show (⟨w.heap.size, 0, none⟩ : Addr).add j = ⟨w.heap.size, j, none⟩ from by unfold Addr.add; split <;> simp_all, (Blk.new w t #[a, b, c, e]).cell]
  simpa using h
theorem run_callFunc_enter {P : Program} {f : FuncId} {fn : Func} (hf : P.funcs[f]? = some fn) (hn : (fn.name == "runtime.NumGoroutine") = false) (hb : fn.body.isNone = false) (args : Array Value) (w : World) : (callFunc f args).run P w = .ok (.enter f args) w := by
  have hn' : ¬ fn.name = "runtime.NumGoroutine" := by simpa using hn
  have hb' : ¬ fn.body = none := by intro e; rw [e] at hb; cases hb
  simp [callFunc, hf, hn', hb', Sem.run_bind, Sem.run_pure, program, Sem.run]
/-- the elements that are kept; the closure with one captured variable -/
theorem tlb_left1 (fid : FuncId) (cv : Value) (keep : Tr → Bool) (hR : Rw 153 4 own d w v l.length (trsC l)) (hl : l.length ≤ 1024)
    (hcf : ∀ args w, (callFunc fid args).run Tryz.prog w = .ok (.enter fid args) w) (hf : ∀ (x : Tr) (w' : World), Upd (fun _ => False) w w' → Calls Tryz.prog fid #[.agg #[.int .i64 x.v, .int .u64 x.p, .int .u64 x.f, .int .i64 x.r], cv] w' fun e w'' => e = .returned (.bool (keep x)) ∧ Upd (fun _ => False) w' w'') (d' : Nat) :
    Calls Tryz.prog 122 #[v, .func (.func fid) #[] #[cv]] w fun e w' => ∃ v', e = .returned v' ∧ Step (fun _ => False) own w (ext own w d') w' ∧ Rw 153 4 (ext own w d') d' w' v' (l.filter keep).length (trsC (l.filter keep)) := by
  have hR1 : Rw 153 4 (up1 own w) (d + 1) w v l.length (trsC l) := by
    refine ⟨hR.1, ?_⟩
    rcases hR.2 with hn | ⟨g, o, cap, cur, hv, ho, hb, r⟩
    · exact .inl hn
    · exact .inr ⟨g, o, cap, cur, hv, by rw [up1_old hb.lt, ho], hb, r⟩
  obtain ⟨A, cap, rfl, hcap, hform⟩ := hR1.form
  have HF := Lib.hid hf
  have HCF := Lib.hid hcf
  have HR := Lib.hid (And.intro hR1 hform)
  have HT := Lib.hid trans_parts
  clear hR hf hcf hR1 hform
  go_enter Tryz.func122, Tryz.ntmps122
  go_wp2
  go_loopw [5, 10] (fun s i wr => ∃ (k : Nat), k ≤ l.length ∧ i = .int .i64 (k : Int) ∧ Hid (∃ own', Step (· = 0) (up1 own w) w own' wr ∧ Rw 153 4 own' 0 wr s ((l.take k).filter keep).length (trsC ((l.take k).filter keep)))) (fun _ i _ => l.length - (intOf i).toNat)
  case atStart => exact ⟨0, by omega, rfl, _, Step.refl _ _ _, Rw.nil _ _ _ _ _⟩
  case round =>
    obtain ⟨k, hk, rfl, HL⟩ := hrel
    by_cases hlt : k < l.length
    · obtain ⟨own2, hS2, hO2⟩ := HL.out
      obtain ⟨g, o, rfl, hg, hgl, _, hc⟩ := HR.out.2 (by omega)
      have hget : l[k]? = some l[k] := List.getElem?_eq_getElem hlt
      have htk : l.take (k + 1) = l.take k ++ [l[k]] := by rw [List.take_add_one, hget]; rfl
      obtain ⟨q0, q1, q2, q3⟩ := trsC_at l k _ hget
      have hUp := up1_upd hS2
      have c0 := (hUp.cell (p := ⟨g, o + k * 4, none⟩) hgl (fun h => h)).trans (hc _ _ q0)
      have c1 := (hUp.cell (p := ⟨g, o + (k * 4 + 1), none⟩) hgl (fun h => h)).trans (hc _ _ q1)
      have c2 := (hUp.cell (p := ⟨g, o + (k * 4 + 2), none⟩) hgl (fun h => h)).trans (hc _ _ q2)
      have c3 := (hUp.cell (p := ⟨g, o + (k * 4 + 3), none⟩) hgl (fun h => h)).trans (hc _ _ q3)
      simp only [← Nat.add_assoc] at c1 c2 c3
      generalize l[k] = x at *
      have hlt' : (k : Int) < (l.length : Int) := by omega
      have HTk := Lib.hid htk
      have H2 := Lib.hid (And.intro hS2 (And.intro hO2 hUp))
      clear hS2 hO2 hUp hget htk q0 q1 q2 q3 hc HL
      go_wp2_with fail
      have hst3 := step_alloc' own2 wr (.cells #[.int .i64 x.v, .int .u64 x.p, .int .u64 x.f, .int .i64 x.r] 153)
      have hb3 := Blk.new wr 153 #[.int .i64 x.v, .int .u64 x.p, .int .u64 x.f, .int .i64 x.r]
      have ho3 : ext own2 wr 1 wr.heap.size = 1 := ext_new _ _ _ (Nat.le_refl _)
      have H3 := Lib.hid (And.intro (H2.out.1.trans (hst3.mono (C' := (· = 0)) (fun _ h => h.elim))) (And.intro (H2.out.2.1.step hst3 (fun h => h)) (And.intro hb3 ho3)))
      have HU3 := Lib.hid (H2.out.2.2.trans ((Upd.refl (fun _ => False) wr).alloc (.cells #[.int .i64 x.v, .int .u64 x.p, .int .u64 x.f, .int .i64 x.r] 153)))
      generalize (wr.alloc (.cells #[.int .i64 x.v, .int .u64 x.p, .int .u64 x.f, .int .i64 x.r] 153)) = w3 at *
      generalize wr.heap.size = xb at *
      clear hst3 hb3 ho3 H2 c0 c1 c2 c3
      rw [HCF.out, Oper.upon_enter]
      refine (HF.out x _ HU3.out).mono ?_; rintro e w4 ⟨rfl, hU4⟩
      have hst4 : Step (fun _ => False) (ext own2 wr 1) w3 (ext own2 wr 1) w4 := ⟨hU4, fun _ _ => rfl⟩
      have hb4 := hst4.blk H3.out.2.2.1 H3.out.2.2.2 (fun h => h)
      have H4 := Lib.hid (And.intro (H3.out.1.trans (hst4.mono (C' := (· = 0)) (fun _ h => h.elim))) (H3.out.2.1.step hst4 (fun h => h)))
      have d0 := hb4.1.cell 0
      have d1 := hb4.1.cell 1
      have d2 := hb4.1.cell 2
      have d3 := hb4.1.cell 3
      simp only [List.getElem?_toArray, List.getElem?_cons_succ, List.getElem?_cons_zero] at d0 d1 d2 d3
      generalize ext own2 wr 1 = own4 at *
      obtain ⟨i, z, hi, hz, hs, hby, hzs⟩ := HT.out
      have HI := Lib.hid (And.intro hi (And.intro hz (And.intro hs (And.intro hby hzs))))
      clear hst4 hU4 hb4 H3 HU3 hi hz hs hby hzs
      have hkl : ((l.take k).filter keep).length ≤ l.length := Nat.le_trans (List.length_filter_le _ _) (by rw [List.length_take]; omega)
      have HKL := Lib.hid hkl
      clear hkl
      obtain ⟨b, hb⟩ : ∃ b, keep x = b := ⟨_, rfl⟩
      rw [hb]
      rcases b with _ | _
      · have hfl : (l.take (k + 1)).filter keep = (l.take k).filter keep := by rw [HTk.out, List.filter_append]; simp [hb]
        have HFL := Lib.hid hfl
        clear hfl hb
        go_wp2
        exact ⟨⟨k + 1, by omega, by go_num, own4, by rw [HFL.out]; exact H4.out⟩, by simp [intOf]; omega⟩
      · have hfl : (l.take (k + 1)).filter keep = (l.take k).filter keep ++ [x] := by rw [HTk.out, List.filter_append]; simp [hb]
        have HFL := Lib.hid hfl
        clear hfl hb
        go_wp2_with ((with_reducible show wpList _ _ _ ((⟨some 20, _, _, _, _, _⟩ : Oper) :: _) _ _); refine wpList_append_rw rfl (.tmp 17) (.tmp 19) _ rfl 153 i _ 4 32 Tryz.underlying79 HI.out.1 HI.out.2.1 HI.out.2.2.1 HI.out.2.2.2.1 HI.out.2.2.2.2 (by omega) (own := own4) (d := 0) u5 _ _ rfl (H4.out.2.step (step_allocS own4 w4 _) (fun h => h)) (w4.heap.size + 1) (some ⟨w4.heap.size, 0, none⟩) 1 1 (trC x) rfl ⟨rfl, fun _ => ⟨_, rfl, Nat.lt_succ_self _, cells_new4 _ _ _ _ _ _⟩⟩ (by simp [Value.oneCell', trC]) (by unfold maxLen; have := HKL.out; omega) (by have := HKL.out; omega) ?_)
        intro v2 w5 hst5 hrow5
        have hst6 := H4.out.1.trans (((step_allocS own4 w4 _).mono (C' := (· = 0)) (fun _ h => h.elim)).trans hst5)
        rw [← trsC_snoc, ← HFL.out, show ((l.take k).filter keep).length + 1 = ((l.take (k + 1)).filter keep).length from by rw [HFL.out]; simp] at hrow5
        have H6 := Lib.hid (And.intro hst6 hrow5)
        clear hst5 hst6 hrow5 H4
        go_wp2
        exact ⟨⟨k + 1, by omega, by go_num, _, H6.out⟩, by simp [intOf]; omega⟩
    · obtain rfl : k = l.length := by omega
      rw [List.take_length] at HL
      go_wp2
      go_ret
      obtain ⟨own2, hS2, hO2⟩ := HL.out
      exact ⟨_, rfl, ⟨up1_upd hS2, fun b hb => ext_old _ _ _ hb⟩, up1_row hS2 hO2 d'⟩
/-- the elements that are kept; the closure with two -/
theorem tlb_left2 (fid : FuncId) (cv cv2 : Value) (keep : Tr → Bool) (hR : Rw 153 4 own d w v l.length (trsC l)) (hl : l.length ≤ 1024)
    (hcf : ∀ args w, (callFunc fid args).run Tryz.prog w = .ok (.enter fid args) w) (hf : ∀ (x : Tr) (w' : World), Upd (fun _ => False) w w' → Calls Tryz.prog fid #[.agg #[.int .i64 x.v, .int .u64 x.p, .int .u64 x.f, .int .i64 x.r], cv, cv2] w' fun e w'' => e = .returned (.bool (keep x)) ∧ Upd (fun _ => False) w' w'') (d' : Nat) :
    Calls Tryz.prog 122 #[v, .func (.func fid) #[] #[cv, cv2]] w fun e w' => ∃ v', e = .returned v' ∧ Step (fun _ => False) own w (ext own w d') w' ∧ Rw 153 4 (ext own w d') d' w' v' (l.filter keep).length (trsC (l.filter keep)) := by
  have hR1 : Rw 153 4 (up1 own w) (d + 1) w v l.length (trsC l) := by
    refine ⟨hR.1, ?_⟩
    rcases hR.2 with hn | ⟨g, o, cap, cur, hv, ho, hb, r⟩
    · exact .inl hn
    · exact .inr ⟨g, o, cap, cur, hv, by rw [up1_old hb.lt, ho], hb, r⟩
  obtain ⟨A, cap, rfl, hcap, hform⟩ := hR1.form
  have HF := Lib.hid hf
  have HCF := Lib.hid hcf
  have HR := Lib.hid (And.intro hR1 hform)
  have HT := Lib.hid trans_parts
  clear hR hf hcf hR1 hform
  go_enter Tryz.func122, Tryz.ntmps122
  go_wp2
  go_loopw [5, 10] (fun s i wr => ∃ (k : Nat), k ≤ l.length ∧ i = .int .i64 (k : Int) ∧ Hid (∃ own', Step (· = 0) (up1 own w) w own' wr ∧ Rw 153 4 own' 0 wr s ((l.take k).filter keep).length (trsC ((l.take k).filter keep)))) (fun _ i _ => l.length - (intOf i).toNat)
  case atStart => exact ⟨0, by omega, rfl, _, Step.refl _ _ _, Rw.nil _ _ _ _ _⟩
  case round =>
    obtain ⟨k, hk, rfl, HL⟩ := hrel
    by_cases hlt : k < l.length
    · obtain ⟨own2, hS2, hO2⟩ := HL.out
      obtain ⟨g, o, rfl, hg, hgl, _, hc⟩ := HR.out.2 (by omega)
      have hget : l[k]? = some l[k] := List.getElem?_eq_getElem hlt
      have htk : l.take (k + 1) = l.take k ++ [l[k]] := by rw [List.take_add_one, hget]; rfl
      obtain ⟨q0, q1, q2, q3⟩ := trsC_at l k _ hget
      have hUp := up1_upd hS2
      have c0 := (hUp.cell (p := ⟨g, o + k * 4, none⟩) hgl (fun h => h)).trans (hc _ _ q0)
      have c1 := (hUp.cell (p := ⟨g, o + (k * 4 + 1), none⟩) hgl (fun h => h)).trans (hc _ _ q1)
      have c2 := (hUp.cell (p := ⟨g, o + (k * 4 + 2), none⟩) hgl (fun h => h)).trans (hc _ _ q2)
      have c3 := (hUp.cell (p := ⟨g, o + (k * 4 + 3), none⟩) hgl (fun h => h)).trans (hc _ _ q3)
      simp only [← Nat.add_assoc] at c1 c2 c3
      generalize l[k] = x at *
      have hlt' : (k : Int) < (l.length : Int) := by omega
      have HTk := Lib.hid htk
      have H2 := Lib.hid (And.intro hS2 (And.intro hO2 hUp))
      clear hS2 hO2 hUp hget htk q0 q1 q2 q3 hc HL
      go_wp2_with fail
      have hst3 := step_alloc' own2 wr (.cells #[.int .i64 x.v, .int .u64 x.p, .int .u64 x.f, .int .i64 x.r] 153)
      have hb3 := Blk.new wr 153 #[.int .i64 x.v, .int .u64 x.p, .int .u64 x.f, .int .i64 x.r]
      have ho3 : ext own2 wr 1 wr.heap.size = 1 := ext_new _ _ _ (Nat.le_refl _)
      have H3 := Lib.hid (And.intro (H2.out.1.trans (hst3.mono (C' := (· = 0)) (fun _ h => h.elim))) (And.intro (H2.out.2.1.step hst3 (fun h => h)) (And.intro hb3 ho3)))
      have HU3 := Lib.hid (H2.out.2.2.trans ((Upd.refl (fun _ => False) wr).alloc (.cells #[.int .i64 x.v, .int .u64 x.p, .int .u64 x.f, .int .i64 x.r] 153)))
      generalize (wr.alloc (.cells #[.int .i64 x.v, .int .u64 x.p, .int .u64 x.f, .int .i64 x.r] 153)) = w3 at *
      generalize wr.heap.size = xb at *
      clear hst3 hb3 ho3 H2 c0 c1 c2 c3
      rw [HCF.out, Oper.upon_enter]
      refine (HF.out x _ HU3.out).mono ?_; rintro e w4 ⟨rfl, hU4⟩
      have hst4 : Step (fun _ => False) (ext own2 wr 1) w3 (ext own2 wr 1) w4 := ⟨hU4, fun _ _ => rfl⟩
      have hb4 := hst4.blk H3.out.2.2.1 H3.out.2.2.2 (fun h => h)
      have H4 := Lib.hid (And.intro (H3.out.1.trans (hst4.mono (C' := (· = 0)) (fun _ h => h.elim))) (H3.out.2.1.step hst4 (fun h => h)))
      have d0 := hb4.1.cell 0
      have d1 := hb4.1.cell 1
      have d2 := hb4.1.cell 2
      have d3 := hb4.1.cell 3
      simp only [List.getElem?_toArray, List.getElem?_cons_succ, List.getElem?_cons_zero] at d0 d1 d2 d3
      generalize ext own2 wr 1 = own4 at *
      obtain ⟨i, z, hi, hz, hs, hby, hzs⟩ := HT.out
      have HI := Lib.hid (And.intro hi (And.intro hz (And.intro hs (And.intro hby hzs))))
      clear hst4 hU4 hb4 H3 HU3 hi hz hs hby hzs
      have hkl : ((l.take k).filter keep).length ≤ l.length := Nat.le_trans (List.length_filter_le _ _) (by rw [List.length_take]; omega)
      have HKL := Lib.hid hkl
      clear hkl
      obtain ⟨b, hb⟩ : ∃ b, keep x = b := ⟨_, rfl⟩
      rw [hb]
      rcases b with _ | _
      · have hfl : (l.take (k + 1)).filter keep = (l.take k).filter keep := by rw [HTk.out, List.filter_append]; simp [hb]
        have HFL := Lib.hid hfl
        clear hfl hb
        go_wp2
        exact ⟨⟨k + 1, by omega, by go_num, own4, by rw [HFL.out]; exact H4.out⟩, by simp [intOf]; omega⟩
      · have hfl : (l.take (k + 1)).filter keep = (l.take k).filter keep ++ [x] := by rw [HTk.out, List.filter_append]; simp [hb]
        have HFL := Lib.hid hfl
        clear hfl hb
        go_wp2_with ((with_reducible show wpList _ _ _ ((⟨some 20, _, _, _, _, _⟩ : Oper) :: _) _ _); refine wpList_append_rw rfl (.tmp 17) (.tmp 19) _ rfl 153 i _ 4 32 Tryz.underlying79 HI.out.1 HI.out.2.1 HI.out.2.2.1 HI.out.2.2.2.1 HI.out.2.2.2.2 (by omega) (own := own4) (d := 0) u5 _ _ rfl (H4.out.2.step (step_allocS own4 w4 _) (fun h => h)) (w4.heap.size + 1) (some ⟨w4.heap.size, 0, none⟩) 1 1 (trC x) rfl ⟨rfl, fun _ => ⟨_, rfl, Nat.lt_succ_self _, cells_new4 _ _ _ _ _ _⟩⟩ (by simp [Value.oneCell', trC]) (by unfold maxLen; have := HKL.out; omega) (by have := HKL.out; omega) ?_)
        intro v2 w5 hst5 hrow5
        have hst6 := H4.out.1.trans (((step_allocS own4 w4 _).mono (C' := (· = 0)) (fun _ h => h.elim)).trans hst5)
        rw [← trsC_snoc, ← HFL.out, show ((l.take k).filter keep).length + 1 = ((l.take (k + 1)).filter keep).length from by rw [HFL.out]; simp] at hrow5
        have H6 := Lib.hid (And.intro hst6 hrow5)
        clear hst5 hst6 hrow5 H4
        go_wp2
        exact ⟨⟨k + 1, by omega, by go_num, _, H6.out⟩, by simp [intOf]; omega⟩
    · obtain rfl : k = l.length := by omega
      rw [List.take_length] at HL
      go_wp2
      go_ret
      obtain ⟨own2, hS2, hO2⟩ := HL.out
      exact ⟨_, rfl, ⟨up1_upd hS2, fun b hb => ext_old _ _ _ hb⟩, up1_row hS2 hO2 d'⟩
end
/-- what is left of a VMID's entries taken away; of a page's -/
def flushT (l : List Tr) (v : Int) : List Tr := l.filter (fun t => t.v != v)
def flushP (l : List Tr) (v p : Int) : List Tr := l.filter (fun t => t.v != v || t.p != p)
/-- a TLB at block p: its room, its entries l -/
def TlbAt (own : Nat → Nat) (c d : Nat) (w : World) (p : Nat) (room : Nat) (l : List Tr) : Prop :=
  (∃ v, Blk w p 179 #[.int .i64 (room : Int), v] ∧ own p = c ∧ Rw 153 4 own d w v l.length (trsC l)) ∧ 1 ≤ room ∧ room ≤ 64 ∧ l.length ≤ room
section
variable {own own' : Nat → Nat} {c d p room : Nat} {w w' : World} {l : List Tr}
theorem TlbAt.step {C : Nat → Prop} (h : TlbAt own c d w p room l) (hS : Step C own w own' w') (hc : ¬ C c) (hd : ¬ C d) : TlbAt own' c d w' p room l := by
  obtain ⟨⟨v, hb, ho, hR⟩, hr⟩ := h
  obtain ⟨h1, h2⟩ := hS.blk hb ho hc
  exact ⟨⟨v, h1, h2, hR.step hS hd⟩, hr⟩
theorem cf_flush (args : Array Value) (w : World) : (callFunc 129 args).run Tryz.prog w = .ok (.enter 129 args) w := run_callFunc_enter Tryz.func129 (by kernel_rfl) (by kernel_rfl) args w
theorem cf_flushP (args : Array Value) (w : World) : (callFunc 123 args).run Tryz.prog w = .ok (.enter 123 args) w := run_callFunc_enter Tryz.func123 (by kernel_rfl) (by kernel_rfl) args w
theorem tlb_flush1 (x : Tr) (b : Nat) (v : Int) (hB : Blk w b 3 #[.int .i64 v]) :
    Calls Tryz.prog 129 #[.agg #[.int .i64 x.v, .int .u64 x.p, .int .u64 x.f, .int .i64 x.r], .pointer (some ⟨b, 0, none⟩)] w fun e w' => e = .returned (.bool (x.v != v)) ∧ Upd (fun _ => False) w w' := by
  have c0 := hB.cell 0
  simp only [List.getElem?_toArray, List.getElem?_cons_zero] at c0
  have hlt := hB.lt
  go_enter Tryz.func129, Tryz.ntmps129
  go_wp2
  go_ret
  exact ⟨rfl, (Upd.refl _ _).alloc _⟩
theorem tlb_flushP1 (x : Tr) (b b2 : Nat) (v p : Int) (hB : Blk w b 3 #[.int .i64 v]) (hB2 : Blk w b2 23 #[.int .u64 p]) :
    Calls Tryz.prog 123 #[.agg #[.int .i64 x.v, .int .u64 x.p, .int .u64 x.f, .int .i64 x.r], .pointer (some ⟨b, 0, none⟩), .pointer (some ⟨b2, 0, none⟩)] w fun e w' => e = .returned (.bool (x.v != v || x.p != p)) ∧ Upd (fun _ => False) w w' := by
  have c0 := hB.cell 0
  have c1 := hB2.cell 0
  simp only [List.getElem?_toArray, List.getElem?_cons_zero] at c0 c1
  have hlt := hB.lt
  have hlt2 := hB2.lt
  obtain ⟨q, hq⟩ : ∃ q, (x.v != v) = q := ⟨_, rfl⟩
  rw [hq]
  cases q
  all_goals
    go_enter Tryz.func123, Tryz.ntmps123
    go_wp2
    go_ret
    exact ⟨by simp, (Upd.refl _ _).alloc _⟩
/-- a TLB whose list was made anew, and laid into it -/
theorem TlbAt.lay {v2 : Value} {l2 : List Tr} (h : TlbAt own c d w p room l) (hcd : c ≠ d) (hU : Upd (fun _ => False) w w') (hR : Rw 153 4 (ext own w d) d w' v2 l2.length (trsC l2)) (hl : l2.length ≤ l.length) :
    Step (· = c) own w (ext own w d) (w'.setCell ⟨p, 1, none⟩ v2) ∧ TlbAt (ext own w d) c d (w'.setCell ⟨p, 1, none⟩ v2) p room l2 := by
  obtain ⟨⟨v, hb, ho, _⟩, h1, h2, h3⟩ := h
  have hS : Step (fun _ => False) own w (ext own w d) w' := ⟨hU, fun b hb => ext_old _ _ _ hb⟩
  obtain ⟨g1, g2⟩ := hS.blk hb ho (fun h => h)
  have hS2 : Step (· = c) (ext own w d) w' (ext own w d) (w'.setCell ⟨p, 1, none⟩ v2) := ⟨(Upd.refl _ _).setCell (.inl g2) _, fun _ _ => rfl⟩
  exact ⟨(hS.mono (fun _ h => h.elim)).trans hS2, ⟨_, g1.set_ 1 v2, g2, hR.step hS2 (fun e => hcd e.symm)⟩, h1, h2, Nat.le_trans hl h3⟩
theorem tlb_Flush (h : TlbAt own c d w p room l) (hcd : c ≠ d) (v : Int) :
    Calls Tryz.prog 110 #[.pointer (some ⟨p, 0, none⟩), .int .i64 v] w fun e w' => e = .returned (.tuple #[]) ∧ ∃ own', Step (· = c) own w own' w' ∧ TlbAt own' c d w' p room (flushT l v) := by
  obtain ⟨⟨v1, hb, ho, hR⟩, h1, h2, h3⟩ := h
  have hst := step_allocS own w (.cells #[.int .i64 v] 3)
  have hB := Blk.new w 3 #[.int .i64 v]
  have hb1 := hst.blk hb ho (fun h => h)
  have c1 := hb1.1.cell 1
  simp only [List.getElem?_toArray, List.getElem?_cons_zero, List.getElem?_cons_succ] at c1
  have z1 := hb1.1.frozen 1
  have hlt := hb.lt
  have H0 := Lib.hid (And.intro hst (show TlbAt own c d (w.alloc (.cells #[.int .i64 v] 3)) p room l from ⟨⟨v1, hb1.1, hb1.2, hR.step hst (fun h => h)⟩, h1, h2, h3⟩))
  have HL := Lib.hid (tlb_left1 129 (.pointer (some ⟨w.heap.size, 0, none⟩)) (fun t => t.v != v) (hR.step hst (fun h => h)) (by omega) cf_flush (fun x w' hU => tlb_flush1 x w.heap.size v (hB.upd hU (fun h => h))) d)
  clear hst hB hb1 hb ho hR h1 h2 h3
  go_enter Tryz.func110, Tryz.ntmps110
  go_wp2_with fail
  refine HL.out.mono ?_; rintro e w1 ⟨v2, rfl, hS1, hR1⟩
  have x1 := (hS1.upd.cell (p := ⟨p, 1, none⟩) (show p < _ from by rw [World.size_alloc]; omega) (fun h => h)).trans c1
  have y1 := hS1.upd.frozen' (p := ⟨p, 1, none⟩) (show p < _ from by rw [World.size_alloc]; omega) (fun h => h)
  rw [z1] at y1
  have hlt1 : p < w1.heap.size := by have := hS1.upd.size; rw [World.size_alloc] at this; omega
  have H1 := Lib.hid (H0.out.2.lay hcd hS1.upd hR1 (List.length_filter_le _ _))
  obtain ⟨A2, cap2, hv2, _⟩ := hR1.form
  subst hv2
  clear hS1 hR1 HL c1 z1
  go_wp2
  go_end0
  exact ⟨rfl, _, (H0.out.1.mono (fun _ h => h.elim)).trans H1.out.1, H1.out.2⟩
end
end Go.Proofs.YtonhlgfgbdiapaaGreat
