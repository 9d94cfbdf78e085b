import Derived.Test.YtjhibbhinbdciaaQu3
import Derived.ScopeJumps
import Derived.WalkMore
/- A virtqueue: chain. -/
namespace Go.Proofs.Ytjhibbhinbdciaa
set_option linter.unusedVariables false
set_option linter.unusedSimpArgs false
open Go.RowKit
set_option maxRecDepth 100000
/-- a piece of a chain -/
abbrev Sg := Int × Int
def segC (s : Sg) : List Value := [.int .u64 s.1, .int .i64 s.2]
def segsC (l : List Sg) : List Value := l.flatMap segC
theorem segsC_len (l : List Sg) : (segsC l).length = l.length * 2 := by
  induction l with
  | nil => rfl
  | cons s l ih => show (segC s ++ segsC l).length = _; rw [List.length_append, ih]; simp [segC]; omega
theorem segsC_snoc (l : List Sg) (s : Sg) : segsC (l ++ [s]) = segsC l ++ segC s := by simp [segsC]
/-- what is gone through from a descriptor on: the readable pieces, those to write, an error -/
def chainQ (base n : Nat) (m : Nat → Int) (q : Qu) : Nat → Int → Bool → List Sg → List Sg → (List Sg × List Sg) × Int
  | 0, i, _, R, W => if (q.sz : Int) ≤ i then ((R, W), 32) else ((R, W), 31)
  | f + 1, i, wr, R, W => if (q.sz : Int) ≤ i then ((R, W), 32) else
      if dsOk base n m q i.toNat = false ∨ (wr = true ∧ (dsD base n m q i.toNat).f / 2 % 2 = 0) then ((R, W), 32) else
      if (dsD base n m q i.toNat).f / 2 % 2 = 0 then
        (if (dsD base n m q i.toNat).f % 2 = 0 then ((R ++ [((dsD base n m q i.toNat).a, (dsD base n m q i.toNat).n)], W), 0) else chainQ base n m q f (dsD base n m q i.toNat).x false (R ++ [((dsD base n m q i.toNat).a, (dsD base n m q i.toNat).n)]) W)
      else
        (if (dsD base n m q i.toNat).f % 2 = 0 then ((R, W ++ [((dsD base n m q i.toNat).a, (dsD base n m q i.toNat).n)]), 0) else chainQ base n m q f (dsD base n m q i.toNat).x true R (W ++ [((dsD base n m q i.toNat).a, (dsD base n m q i.toNat).n)]))
theorem allocCh (w : World) : (Instr.alloc 40 true (.tuple #[])).run Try.prog w = .ok (.pointer (some ⟨w.heap.size, 0, none⟩)) (w.alloc (.cells #[.int .i64 0, .slice none 0 0, .slice none 0 0] 40)) := by kernel_rfl
theorem wpList_allocCh {ops : Array Oper} {Q : Exit → Act → World → Prop} {a : Act} {w : World} {rest : List Oper} {o : Oper} (hg : o.guard = none) (hop : o.op = .alloc 40)
    (h : ∀ b w', w.heap.size ≤ b → b < w'.heap.size → Blk w' b 40 #[.int .i64 0, .slice none 0 0, .slice none 0 0] → Upd (fun _ => False) w w' → wpList Try.prog ops Q rest (a.put o.dst (.pointer (some ⟨b, 0, none⟩))) w') : wpList Try.prog ops Q (o :: rest) a w :=
  wpList_plain hg fun _ hK => wp_run (exec_alloc hop (allocCh w)) (hK _ _ (h _ _ (Nat.le_refl _) (Blk.new _ _ _).lt (Blk.new _ _ _) ((Upd.refl _ _).alloc _)))
theorem wpList_allocSg {ops : Array Oper} {Q : Exit → Act → World → Prop} {a : Act} {w : World} {rest : List Oper} {o : Oper} (hg : o.guard = none) (hop : o.op = .alloc 44)
    (h : ∀ b w', w.heap.size ≤ b → b < w'.heap.size → Blk w' b 44 #[.int .u64 0, .int .i64 0] → Upd (fun _ => False) w w' → wpList Try.prog ops Q rest (a.put o.dst (.pointer (some ⟨b, 0, none⟩))) w') : wpList Try.prog ops Q (o :: rest) a w :=
  wpList_plain hg fun _ hK => wp_run (exec_alloc hop (allocS w)) (hK _ _ (h _ _ (Nat.le_refl _) (Blk.new _ _ _).lt (Blk.new _ _ _) ((Upd.refl _ _).alloc _)))
theorem wpList_storeR {ops : Array Oper} {Q : Exit → Act → World → Prop} {a : Act} {w : World} {rest : List Oper} {o : Oper} {t : TypeId} (hg : o.guard = none) (x y : Operand) (hop : o.op = .store t x y) (b : Nat) (cs' : Array Value) (hx : a.eval x = .pointer (some ⟨b, 0, none⟩)) (hy : a.eval y = .agg cs')
    (cs : Array Value) (hb : Blk w b t cs) (hi : (Try.prog.info? t).map (·.size) = some cs'.size) (hsz : cs'.size = cs.size) (h1 : cs'.all (·.oneCell') = true)
    (h : ∀ w', Blk w' b t cs' → Upd (· = b) w w' → wpList Try.prog ops Q rest (a.put o.dst undef) w') : wpList Try.prog ops Q (o :: rest) a w :=
  wpList_plain hg fun _ hK => wp_store_row _ x y hop b _ hx hy _ cs hb hi hsz.symm h1 (hK _ _ (h _ (hb.setRow _) ((Upd.refl (fun x => x = b) _).setRow (g := b) (.inl rfl) _)))
/-- a scope whose run jumps back to one label: what holds from the label on may be used the first time too -/
theorem wp_scope_again {P : Program} {a : Act} {w : World} {Q : Exit → Act → World → Prop} {c x : Code} (l : Nat) (J : Act → World → Prop) (μ : Act → World → Nat) (hf : findLabel c l = some (Code.skip.seq x))
    (first : (∀ a w, J a w → x.wp P (Exit.jump l J Q) a w) → c.wp P (Exit.jump l J Q) a w)
    (pass : ∀ a w, J a w → x.wp P (Exit.jump l (fun a' w' => J a' w' ∧ μ a' w' < μ a w) Q) a w) : (Code.scope c).wp P Q a w := by
  refine wp_scope_jumps l J μ hf (first (fun a w hJ => Code.wp_mono (fun e a' w' h => ?_) (pass a w hJ))) (fun a w hJ => wp_seq (wp_skip (pass a w hJ)))
  cases e <;> first | exact ⟨h.1, h.2.1⟩ | exact h
theorem wpList_loadR {ops : Array Oper} {Q : Exit → Act → World → Prop} {a : Act} {w : World} {rest : List Oper} {o : Oper} {t : TypeId} (hg : o.guard = none) (x : Operand) (hop : o.op = .load t x) (b : Nat) (cs : List Value) (d : TypeDesc) (hx : a.eval x = .pointer (some ⟨b, 0, none⟩)) (hb : Blk w b t cs.toArray)
    (hu : Try.prog.underlying t = some d) (hd : d.isRow = true) (hi : (Try.prog.info? t).map (·.size) = some cs.length)
    (h : wpList Try.prog ops Q rest (a.put o.dst (.agg cs.toArray)) w) : wpList Try.prog ops Q (o :: rest) a w :=
  wpList_run hg (exec_load hop _ hx (run_loadAt_mid w b 0 _ cs _ (fun j v hv => by rw [hb.cell]; simpa using hv) hu hd hi)) h
theorem and2_i (f : Int) (h0 : 0 ≤ f) (h1 : f < 65536) : bits .and .u64 f 2 = f / 2 % 2 * 2 := by
  obtain ⟨v, rfl⟩ := Int.eq_ofNat_of_zero_le h0
  have := u64_and_nat v 2 (by omega) (by decide)
  rw [show ((2 : Nat) : Int) = 2 from rfl] at this
  rw [this]
  have h1 : v &&& 2 ≤ 2 := Nat.and_le_right
  have h2 : (v &&& 2) % 4 = (v % 4 &&& 2 % 4) := by rw [show 4 = 2 ^ 2 from rfl, Nat.and_mod_two_pow]
  have h3 : v % 4 < 4 := Nat.mod_lt _ (by decide)
  have h4 : ∀ z : Fin 4, (z.val &&& 2) = z.val / 2 * 2 := by decide
  have h5 := h4 ⟨v % 4, h3⟩
  simp only [] at h5
  rw [show 2 % 4 = 2 from rfl, h5] at h2
  omega
theorem meas_q (a g g' : Nat) (h : g < a) (h' : g' = g + 1) : a - (intOf (.int .u64 (g' : Int))).toNat < a - (intOf (.int .u64 (g : Int))).toNat := by
  have e1 : (intOf (.int .u64 (g' : Int))).toNat = g' := by show ((g' : Int)).toNat = g'; omega
  have e2 : (intOf (.int .u64 (g : Int))).toNat = g := by show ((g : Int)).toNat = g; omega
  rw [e1, e2]
  omega
theorem seg_parts : ∃ (i : TypeInfo) (z : Value), Try.prog.info? 44 = some i ∧ i.zero = some z ∧ i.size = 2 ∧ i.bytes = 16 ∧ z.cells.size = 2 := by
  have h : (Try.prog.info? 44).map (fun i => (i.zero, i.size, i.bytes)) = some (some (.agg #[.int .u64 0, .int .i64 0]), 2, 16) := by kernel_rfl
  obtain ⟨i, hi, hz, hs, hb⟩ := info_parts h
  exact ⟨i, _, hi, hz, hs, hb, rfl⟩
theorem cells_newS (w : World) (t : TypeId) (a b : Value) : ∀ j u, [a, b][j]? = some u → (w.alloc (.cells #[a, b] t)).cell? ((⟨w.heap.size, 0, none⟩ : Addr).add j) = some u := by
  intro j u h
  rw [show (⟨w.heap.size, 0, none⟩ : Addr).add j = ⟨w.heap.size, j, none⟩ from by unfold Addr.add; split <;> simp_all, (Blk.new w t #[a, b]).cell]
  simpa using h
def own9 (w : World) : Nat → Nat := fun b => if b < w.heap.size then 9 else 0
section
variable {own own' : Nat → Nat} {c cm p mp base n : Nat} {w w' : World} {q : Qu} {m : Nat → Int}
/-- what holds at the label -/
def ChI (own : Nat → Nat) (w : World) (base n : Nat) (m : Nat → Int) (q : Qu) (hd : Nat) (pc cb sb : Nat) (RES : (List Sg × List Sg) × Int) (i g : Nat) (wr : Bool) (w' : World) : Prop :=
  ∃ own' R W vR vW x y, Step (fun x => x < 3) own w own' w' ∧ (Blk w' cb 40 #[.int .i64 (hd : Int), vR, vW] ∧ own' cb = 0) ∧ (Blk w' sb 44 #[.int .u64 x, .int .i64 y] ∧ own' sb = 0) ∧ (Blk w' pc 40 #[.int .i64 0, .slice none 0 0, .slice none 0 0] ∧ own' pc = 0) ∧
    (cb ≠ sb ∧ cb ≠ pc ∧ sb ≠ pc) ∧ Rw 44 2 own' 1 w' vR R.length (segsC R) ∧ Rw 44 2 own' 2 w' vW W.length (segsC W) ∧ R.length + W.length ≤ g ∧ g ≤ q.sz ∧ chainQ base n m q (q.sz - g) (i : Int) wr R W = RES
def ChJ (own : Nat → Nat) (w : World) (base n : Nat) (m : Nat → Int) (q : Qu) (p mp hd : Nat) (pc cb sb : Nat) (RES : (List Sg × List Sg) × Int) (a' : Act) (w' : World) : Prop :=
  ∃ (i g : Nat) (wr : Bool) (u10 u11 u13 u16 u17 u18 u19 u20 u21 u22 u23 u24 u25 u26 u27 u28 u29 u30 u31 u32 u33 u34 u35 u36 u37 u38 u39 u40 u41 u42 u43 u44 u45 u46 u47 u48 u49 u50 u51 u52 u53 u54 u55 u56 u57 u58 u59 u60 u61 u62 u63 u64 u65 u66 u67 u68 u69 u70 u71 u72 u73 u74 u75 u76 : Value), a' = { tmps := #[.pointer (some ⟨p, 0, none⟩), memV mp, .int .u64 (hd : Int), undef, undef, undef, .pointer (some ⟨pc, 0, none⟩), .int .i64 0, .pointer (some ⟨cb, 0, none⟩), .int .u64 (i : Int), u10, u11, .pointer (some ⟨sb, 0, none⟩), u13, .int .u64 (g : Int), .bool wr, u16, u17, u18, u19, u20, u21, u22, u23, u24, u25, u26, u27, u28, u29, u30, u31, u32, u33, u34, u35, u36, u37, u38, u39, u40, u41, u42, u43, u44, u45, u46, u47, u48, u49, u50, u51, u52, u53, u54, u55, u56, u57, u58, u59, u60, u61, u62, u63, u64, u65, u66, u67, u68, u69, u70, u71, u72, u73, u74, u75, u76], defers := [] } ∧ i < 65536 ∧ Hid (ChI own w base n m q hd pc cb sb RES i g wr w')
theorem ch_fin {wF : World} {vR vW : Value} {R W : List Sg} {pc : Nat} {own' : Nat → Nat} (own : Nat → Nat) (d : Nat) (hS : Step (fun x => x < 3) (own9 w) w own' w') (hU : Upd (· = pc) w' wF) (hp0 : own' pc = 0)
    (hR : Rw 44 2 own' 1 w' vR R.length (segsC R)) (hW : Rw 44 2 own' 2 w' vW W.length (segsC W)) :
    Step (fun _ => False) own w (ext own w d) wF ∧ Rw 44 2 (ext own w d) d wF vR R.length (segsC R) ∧ Rw 44 2 (ext own w d) d wF vW W.length (segsC W) := by
  have h2 : Step (· = 0) own' w' own' wF := ⟨hU.mono (fun i _ e => e ▸ hp0), fun _ _ => rfl⟩
  have h3 := hS.trans (h2.mono (C' := fun x => x < 3) (fun x e => by omega))
  have hn : ∀ b, b < w.heap.size → own' b = 9 := fun b hb => (hS.old b hb).trans (if_pos hb)
  refine ⟨⟨h3.upd.mono (fun i hi e => by rw [show own9 w i = 9 from if_pos hi] at e; omega), fun b hb => ext_old _ _ _ hb⟩, ?_, ?_⟩
  · exact (hR.step h2 (by decide)).recol (fun b e => ext_new _ _ _ (Nat.le_of_not_lt (fun hb => by have := hn b hb; omega)))
  · exact (hW.step h2 (by decide)).recol (fun b e => ext_new _ _ _ (Nat.le_of_not_lt (fun hb => by have := hn b hb; omega)))
set_option maxHeartbeats 8000000 in
theorem q_chain (h : QAt own c w p q) (hM : MemAt ramK own cm w mp base n m) (hok : QuOk q) (hrd : q.rd = true) (hd : Nat) (hhd : hd < 65536) (d : Nat) :
    Calls Try.prog 39 #[.pointer (some ⟨p, 0, none⟩), memV mp, .int .u64 (hd : Int)] w fun e w' =>
      ∃ own' vR vW, e = .returned (.tuple #[.agg #[.int .i64 (hd : Int), vR, vW], .int .i64 (chainQ base n m q q.sz (hd : Int) false [] []).2]) ∧ Step (fun _ => False) own w own' w' ∧
        Rw 44 2 own' d w' vR (chainQ base n m q q.sz (hd : Int) false [] []).1.1.length (segsC (chainQ base n m q q.sz (hd : Int) false [] []).1.1) ∧ Rw 44 2 own' d w' vW (chainQ base n m q q.sz (hd : Int) false [] []).1.2.length (segsC (chainQ base n m q q.sz (hd : Int) false [] []).1.2) := by
  obtain ⟨RES, hRES⟩ : ∃ r, chainQ base n m q q.sz (hd : Int) false [] [] = r := ⟨_, rfl⟩
  rw [hRES]
  have hcv : wrap64 (hd : Int) = (hd : Int) := IntWalk.wrap64_in _ (by omega)
  have H0 := Lib.hid (And.intro h (And.intro hM (And.intro hok (And.intro (hok.sz hrd) hRES))))
  clear h hM hok hrd hRES
  unfold memV
  go_enter Try.func39, Try.ntmps39
  go_wp2_with ((with_reducible show wpList _ _ _ ((⟨some 6, _, _, _, _, _⟩ : Oper) :: _) _ _); refine wpList_allocCh rfl rfl (fun pc w1 hgp hlp hbp hUp => ?_))
  have H1 := Lib.hid (And.intro hgp (And.intro hbp hUp))
  clear hgp hlp hbp hUp
  refine wp_scope_again 0 (fun a' w' => ∃ cb sb, ChJ (own9 w) w base n m q p mp hd pc cb sb RES a' w') (fun a' _ => q.sz - (intOf (a'.tmps.getD 14 undef)).toNat) rfl (fun pass => ?first) ?pass
  case first =>
    have HPs := Lib.hid pass
    clear pass
    go_wp2_with (first | ((with_reducible show wpList _ _ _ ((⟨some 8, _, _, _, _, _⟩ : Oper) :: _) _ _); refine wpList_allocCh rfl rfl (fun cb w2 hg2 hl2 hb2 hU2 => ?_)) | ((with_reducible show wpList _ _ _ ((⟨some 12, _, _, _, _, _⟩ : Oper) :: _) _ _); refine wpList_allocSg rfl rfl (fun sb w3 hg3 hl3 hb3 hU3 => ?_)) | ((with_reducible show wpList _ _ _ ((⟨none, _, _, _, _, _⟩ : Oper) :: _) _ _); refine wpList_storeR rfl (.tmp 8) (.tmp 18) rfl cb #[.int .i64 (hd : Int), .slice none 0 0, .slice none 0 0] rfl rfl _ hb2 (by kernel_rfl) rfl (by simp [Value.oneCell']) (fun w2' hb2' hU2' => ?_)))
    go_step3
    rename_i hKn
    refine hKn _ _ (HPs.out _ _ ⟨cb, sb, ?J⟩)
    case J =>
      obtain ⟨hgp, hbp, hUp⟩ := H1.out
      have hpl := hbp.lt
      have hUa := hUp.trans hU2
      have hUb := hUa.trans' hU2' (fun i hi e => by have := hUp.size; omega)
      have hUc := hUb.trans hU3
      have hcb := hb2'.lt
      have hpc2 := ((hbp.upd hU2 (fun h => h)).upd hU2' (by omega)).upd hU3 (fun h => h)
      refine ⟨hd, 0, false, _, _, _, _, _, _, _, _, _, _, _, _, _, _, _, _, _, _, _, _, _, _, _, _, _, _, _, _, _, _, _, _, _, _, _, _, _, _, _, _, _, _, _, _, _, _, _, _, _, _, _, _, _, _, _, _, _, _, _, _, _, _, _, _, rfl, hhd, own9 w, [], [], _, _, 0, 0, ⟨hUc.mono (fun _ _ h => h.elim), fun _ _ => rfl⟩, ⟨hb2'.upd hU3 (fun h => h), if_neg (by have := hUp.size; omega)⟩, ⟨hb3, if_neg (by have := hUb.size; omega)⟩, ⟨hpc2, if_neg (by omega)⟩, ⟨by omega, by omega, ?_⟩, Rw.nil _ _ _ _ _, Rw.nil _ _ _ _ _, Nat.le_refl _, Nat.zero_le _, H0.out.2.2.2.2⟩
      have := hU2'.size
      have := hU2.size
      omega
  case pass =>
    clear H1
    rintro a' w' ⟨cb, sb, i, g, wr, u10, u11, u13, u16, u17, u18, u19, u20, u21, u22, u23, u24, u25, u26, u27, u28, u29, u30, u31, u32, u33, u34, u35, u36, u37, u38, u39, u40, u41, u42, u43, u44, u45, u46, u47, u48, u49, u50, u51, u52, u53, u54, u55, u56, u57, u58, u59, u60, u61, u62, u63, u64, u65, u66, u67, u68, u69, u70, u71, u72, u73, u74, u75, u76, rfl, hi, hI⟩
    obtain ⟨own', R, W, vR, vW, x, y, hS, hc, hs, hp, hne, hR, hW, hl, hg, hch⟩ := hI.out
    have hU' : Upd (fun _ => False) w w' := hS.upd.mono (fun i hi e => by rw [show own9 w i = 9 from if_pos hi] at e; omega)
    have hSt' : Step (fun _ => False) own w own w' := ⟨hU', fun _ _ => rfl⟩
    have hq' := H0.out.1.step hSt' (fun h => h)
    have hM' := H0.out.2.1.step hSt' (fun h => h)
    obtain ⟨AR, cR, rfl, _, _⟩ := hR.form
    obtain ⟨AW, cW, rfl, _, _⟩ := hW.form
    have c2 := hq'.cells.2.2.1
    have HI := Lib.hid (And.intro hS (And.intro hc (And.intro hs (And.intro hp (And.intro hne (And.intro hR hW))))))
    have HC := Lib.hid (And.intro hl (And.intro hg hch))
    have HQ := Lib.hid (And.intro hq' hM')
    have HZ := Lib.hid H0.out.2.2.2.1
    clear hS hc hs hp hne hR hW hl hg hch hU' hSt' hq' hM' hI
    by_cases h1 : q.sz ≤ i
    · have HE := Lib.hid (show RES = ((R, W), 32) by
        rw [← HC.out.2.2]
        cases hf : q.sz - g with
        | zero => unfold chainQ; rw [if_pos (by omega)]
        | succ f => unfold chainQ; rw [if_pos (by omega)])
      have h1' : decide (q.sz ≤ i) = true := decide_eq_true h1
      clear h1
      go_wp2_with (first | ((with_reducible show wpList _ _ _ ((⟨some 26, _, _, _, _, _⟩ : Oper) :: _) _ _); refine wpList_loadR rfl (.tmp 8) rfl cb [.int .i64 (hd : Int), .slice AR R.length cR, .slice AW W.length cW] _ rfl HI.out.2.1.1 Try.underlying40 rfl (by kernel_rfl) ?_) | ((with_reducible show wpList _ _ _ ((⟨none, _, _, _, _, _⟩ : Oper) :: _) _ _); refine wpList_storeR rfl (.tmp 6) (.tmp 26) rfl pc #[.int .i64 (hd : Int), .slice AR R.length cR, .slice AW W.length cW] rfl rfl _ HI.out.2.2.2.1.1 (by kernel_rfl) rfl (by simp [Value.oneCell']) (fun wF hbF hUF => ?_)))
      simp only [Exit.jump]
      refine bodyPost_ret (results_cell_tmp_row rfl _ _ pc 40 #[.int .i64 (hd : Int), .slice AR R.length cR, .slice AW W.length cW] _ rfl hbF Try.underlying40 rfl (by kernel_rfl)) rfl ?_
      rw [HE.out]
      exact ⟨ext own w d, _, _, rfl, ch_fin own d HI.out.1 hUF HI.out.2.2.2.1.2 HI.out.2.2.2.2.2.1 HI.out.2.2.2.2.2.2⟩
    · have h1' : decide (q.sz ≤ i) = false := decide_eq_false h1
      by_cases h2 : g = q.sz
      · have HE := Lib.hid (show RES = ((R, W), 31) by
          rw [← HC.out.2.2, show q.sz - g = 0 by omega]
          unfold chainQ
          rw [if_neg (by omega)])
        have h2' : ((g : Int) == (q.sz : Int)) = true := by simp [h2]
        have h2'' : (g == q.sz) = true := by simp [h2]
        clear h1 h2
        go_wp2_with (first | ((with_reducible show wpList _ _ _ ((⟨some 33, _, _, _, _, _⟩ : Oper) :: _) _ _); refine wpList_loadR rfl (.tmp 8) rfl cb [.int .i64 (hd : Int), .slice AR R.length cR, .slice AW W.length cW] _ rfl HI.out.2.1.1 Try.underlying40 rfl (by kernel_rfl) ?_) | ((with_reducible show wpList _ _ _ ((⟨none, _, _, _, _, _⟩ : Oper) :: _) _ _); refine wpList_storeR rfl (.tmp 6) (.tmp 33) rfl pc #[.int .i64 (hd : Int), .slice AR R.length cR, .slice AW W.length cW] rfl rfl _ HI.out.2.2.2.1.1 (by kernel_rfl) rfl (by simp [Value.oneCell']) (fun wF hbF hUF => ?_)))
        simp only [Exit.jump]
        refine bodyPost_ret (results_cell_tmp_row rfl _ _ pc 40 #[.int .i64 (hd : Int), .slice AR R.length cR, .slice AW W.length cW] _ rfl hbF Try.underlying40 rfl (by kernel_rfl)) rfl ?_
        rw [HE.out]
        exact ⟨ext own w d, _, _, rfl, ch_fin own d HI.out.1 hUF HI.out.2.2.2.1.2 HI.out.2.2.2.2.2.1 HI.out.2.2.2.2.2.2⟩
      · have h2' : ((g : Int) == (q.sz : Int)) = false := by simp; omega
        obtain ⟨g', hg'⟩ : ∃ g', g + 1 = g' := ⟨_, rfl⟩
        have hgw : IntKind.u64.wrap ((g : Int) + 1) = (g' : Int) := by rw [IntWalk.u64_in _ (by have := HC.out.2.1; have := HZ.out; omega)]; omega
        have HDs := Lib.hid (q_descriptor HQ.out.1 HQ.out.2 H0.out.2.2.1 i (by have := HZ.out; omega) 0)
        have hx0 := rd_bd HQ.out.2.bd base n (dsA q i + 14) 2 (.inl rfl)
        have hf0 := rd_bd HQ.out.2.bd base n (dsA q i + 12) 2 (.inl rfl)
        rw [show (256 : Int) ^ (2 : Int).toNat = 65536 by decide] at hx0 hf0
        obtain ⟨D, hD⟩ : ∃ D, dsD base n m q i = D := ⟨_, rfl⟩
        obtain ⟨OK, hOK⟩ : ∃ b, dsOk base n m q i = b := ⟨_, rfl⟩
        have hDx : 0 ≤ D.x ∧ D.x < 65536 := by rw [← hD]; exact hx0
        have hDf : 0 ≤ D.f ∧ D.f < 65536 := by rw [← hD]; exact hf0
        obtain ⟨Da, Dn, Df, Dx⟩ := D
        simp only [] at hDx hDf
        have hch := HC.out.2.2
        rw [show q.sz - g = (q.sz - g') + 1 by have := HC.out.2.1; omega] at hch
        unfold chainQ at hch
        rw [if_neg (show ¬ (q.sz : Int) ≤ (i : Int) by omega), show ((i : Int)).toNat = i from Int.toNat_natCast i, hD, hOK] at hch
        simp only [] at hch
        have HCh := Lib.hid hch
        have HG := Lib.hid (show g' ≤ q.sz ∧ R.length + W.length + 1 ≤ g' ∧ g < q.sz ∧ g' = g + 1 by have := HC.out; omega)
        rw [hD, hOK] at HDs
        clear hch hx0 hf0 hD hOK h1 h2 hg'
        go_wp2_with fail
        ((with_reducible refine HDs.out.mono ?_); rintro e w2 ⟨rfl, hS2⟩)
        obtain ⟨own2, ho2⟩ : ∃ o, ext own' w' 0 = o := ⟨_, rfl⟩
        have hs2 : Step (fun _ => False) own' w' own2 w2 := ho2 ▸ ⟨hS2.upd, fun b hb => ext_old _ _ _ hb⟩
        have hJ := And.intro (HI.out.1.trans (hs2.mono (C' := fun x => x < 3) (fun _ h => h.elim))) (And.intro (hs2.blk HI.out.2.1.1 HI.out.2.1.2 (fun h => h)) (And.intro (hs2.blk HI.out.2.2.1.1 HI.out.2.2.1.2 (fun h => h)) (And.intro (hs2.blk HI.out.2.2.2.1.1 HI.out.2.2.2.1.2 (fun h => h)) (And.intro HI.out.2.2.2.2.1 (And.intro (HI.out.2.2.2.2.2.1.step hs2 (fun h => h)) (HI.out.2.2.2.2.2.2.step hs2 (fun h => h)))))))
        have HJ0 := Lib.hid hJ
        clear hS2 hs2 ho2 hJ HDs HI HQ c2
        obtain ⟨E, hE⟩ : ∃ E : Int, (if OK = true then (0 : Int) else 32) = E := ⟨_, rfl⟩
        obtain ⟨sa, hsa⟩ : ∃ z : Int, (if OK = true then Da else 0) = z := ⟨_, rfl⟩
        obtain ⟨sn, hsn⟩ : ∃ z : Int, (if OK = true then Dn else 0) = z := ⟨_, rfl⟩
        obtain ⟨sf, hsf⟩ : ∃ z : Int, (if OK = true then Df else 0) = z := ⟨_, rfl⟩
        obtain ⟨sx, hsx⟩ : ∃ z : Int, (if OK = true then Dx else 0) = z := ⟨_, rfl⟩
        simp only [hE, hsa, hsn, hsf, hsx]
        have HV := Lib.hid (And.intro hE (And.intro hsa (And.intro hsn (And.intro hsf hsx))))
        clear hE hsa hsn hsf hsx h1' h2' hgw
        go_upto_region 12 with ((with_reducible show wpList _ _ _ ((⟨none, _, _, _, _, _⟩ : Oper) :: _) _ _); refine wpList_storeR rfl (.tmp 12) (.tmp 41) rfl sb #[.int .u64 sa, .int .i64 sn] rfl rfl _ HJ0.out.2.2.1.1 (by kernel_rfl) rfl (by simp [Value.oneCell']) (fun w3 hb3 hU3 => ?_))
        have hs3 : Step (· = 0) own2 w2 own2 w3 := ⟨hU3.mono (fun i _ e => e ▸ HJ0.out.2.2.1.2), fun _ _ => rfl⟩
        have hJ := And.intro (HJ0.out.1.trans (hs3.mono (C' := fun x => x < 3) (fun x e => by omega))) (And.intro (And.intro (HJ0.out.2.1.1.upd hU3 (fun e => HJ0.out.2.2.2.2.1.1 e)) HJ0.out.2.1.2) (And.intro (And.intro hb3 HJ0.out.2.2.1.2) (And.intro (And.intro (HJ0.out.2.2.2.1.1.upd hU3 (fun e => HJ0.out.2.2.2.2.1.2.2 e.symm)) HJ0.out.2.2.2.1.2) (And.intro HJ0.out.2.2.2.2.1 (And.intro (HJ0.out.2.2.2.2.2.1.step hs3 (by decide)) (HJ0.out.2.2.2.2.2.2.step hs3 (by decide)))))))
        have HJ := Lib.hid hJ
        clear hJ hs3 hb3 hU3 HJ0
        cases OK with
        | false =>
          obtain rfl : E = 32 := HV.out.1.symm
          have HE := Lib.hid (show RES = ((R, W), 32) by rw [← HCh.out, if_pos (.inl rfl)])
          go_wp2_with (first | ((with_reducible show wpList _ _ _ ((⟨some 55, _, _, _, _, _⟩ : Oper) :: _) _ _); refine wpList_loadR rfl (.tmp 8) rfl cb [.int .i64 (hd : Int), .slice AR R.length cR, .slice AW W.length cW] _ rfl HJ.out.2.1.1 Try.underlying40 rfl (by kernel_rfl) ?_) | ((with_reducible show wpList _ _ _ ((⟨none, _, _, _, _, _⟩ : Oper) :: _) _ _); refine wpList_storeR rfl (.tmp 6) (.tmp 55) rfl pc #[.int .i64 (hd : Int), .slice AR R.length cR, .slice AW W.length cW] rfl rfl _ HJ.out.2.2.2.1.1 (by kernel_rfl) rfl (by simp [Value.oneCell']) (fun wF hbF hUF => ?_)))
          simp only [Exit.jump]
          refine bodyPost_ret (results_cell_tmp_row rfl _ _ pc 40 #[.int .i64 (hd : Int), .slice AR R.length cR, .slice AW W.length cW] _ rfl hbF Try.underlying40 rfl (by kernel_rfl)) rfl ?_
          rw [HE.out]
          exact ⟨ext own w d, _, _, rfl, ch_fin own d HJ.out.1 hUF HJ.out.2.2.2.1.2 HJ.out.2.2.2.2.2.1 HJ.out.2.2.2.2.2.2⟩
        | true =>
          obtain rfl : E = 0 := HV.out.1.symm
          obtain rfl : sa = Da := HV.out.2.1.symm
          obtain rfl : sn = Dn := HV.out.2.2.1.symm
          obtain rfl : sf = Df := HV.out.2.2.2.1.symm
          obtain rfl : sx = Dx := HV.out.2.2.2.2.symm
          obtain ⟨sx, rfl⟩ := Int.eq_ofNat_of_zero_le hDx.1
          obtain ⟨T2, hT2⟩ : ∃ b, decide (sf / 2 % 2 = 0) = b := ⟨_, rfl⟩
          obtain ⟨T1, hT1⟩ : ∃ b, decide (sf % 2 = 0) = b := ⟨_, rfl⟩
          have e2 : (bits .and .u64 sf 2 == 0) = T2 := by rw [and2_i sf hDf.1 hDf.2, ← hT2]; by_cases h : sf / 2 % 2 = 0 <;> simp [h] <;> omega
          have n2 : (bits .and .u64 sf 2 != 0) = !T2 := by rw [← e2]; rfl
          have n1 : (bits .and .u64 sf 1 != 0) = !T1 := by rw [and1_u sf hDf.1 (by omega), ← hT1]; by_cases h : sf % 2 = 0 <;> simp [h] <;> omega
          obtain ⟨im, zm, hi', hz', hs', hby', hzs'⟩ := seg_parts
          have HI := Lib.hid (And.intro hi' (And.intro hz' (And.intro hs' (And.intro hby' hzs'))))
          have HLn := Lib.hid (show R.length ≤ 64 ∧ W.length ≤ 64 by have := HG.out; have := HZ.out; omega)
          have HT0 := Lib.hid (And.intro hT1 hT2)
          clear hi' hz' hs' hby' hzs' hT1 hT2
          cases T2 with
          | true =>
            cases wr with
            | true =>
              have HE := Lib.hid (show RES = ((R, W), 32) by rw [← HCh.out, if_pos (.inr ⟨rfl, of_decide_eq_true HT0.out.2⟩)])
              go_wp2_with (first | ((with_reducible show wpList _ _ _ ((⟨some 55, _, _, _, _, _⟩ : Oper) :: _) _ _); refine wpList_loadR rfl (.tmp 8) rfl cb [.int .i64 (hd : Int), .slice AR R.length cR, .slice AW W.length cW] _ rfl HJ.out.2.1.1 Try.underlying40 rfl (by kernel_rfl) ?_) | ((with_reducible show wpList _ _ _ ((⟨none, _, _, _, _, _⟩ : Oper) :: _) _ _); refine wpList_storeR rfl (.tmp 6) (.tmp 55) rfl pc #[.int .i64 (hd : Int), .slice AR R.length cR, .slice AW W.length cW] rfl rfl _ HJ.out.2.2.2.1.1 (by kernel_rfl) rfl (by simp [Value.oneCell']) (fun wF hbF hUF => ?_)))
              simp only [Exit.jump]
              refine bodyPost_ret (results_cell_tmp_row rfl _ _ pc 40 #[.int .i64 (hd : Int), .slice AR R.length cR, .slice AW W.length cW] _ rfl hbF Try.underlying40 rfl (by kernel_rfl)) rfl ?_
              rw [HE.out]
              exact ⟨ext own w d, _, _, rfl, ch_fin own d HJ.out.1 hUF HJ.out.2.2.2.1.2 HJ.out.2.2.2.2.2.1 HJ.out.2.2.2.2.2.2⟩
            | false =>
              have hcx : w3.cell? ⟨cb, 1, none⟩ = some (.slice AR R.length cR) := HJ.out.2.1.1.cell 1
              go_wp2_with (first | ((with_reducible show wpList _ _ _ ((⟨some 68, _, _, _, _, _⟩ : Oper) :: _) _ _); refine wpList_loadR rfl (.tmp 12) rfl sb [.int .u64 sa, .int .i64 sn] _ rfl HJ.out.2.2.1.1 Try.underlying44 rfl (by kernel_rfl) ?_) | ((with_reducible show wpList _ _ _ ((⟨some 70, _, _, _, _, _⟩ : Oper) :: _) _ _); refine wpList_append_rw rfl (.tmp 67) (.tmp 69) _ rfl 44 im zm 2 16 Try.underlying38 HI.out.1 HI.out.2.1 HI.out.2.2.1 HI.out.2.2.2.1 HI.out.2.2.2.2 (by omega) (own := own2) (d := 1) (.slice AR R.length cR) _ _ rfl (HJ.out.2.2.2.2.2.1.step (step_allocS own2 w3 _) (fun h => h)) (w3.heap.size + 1) (some ⟨w3.heap.size, 0, none⟩) 1 1 [.int .u64 sa, .int .i64 sn] rfl ⟨rfl, fun _ => ⟨_, rfl, Nat.lt_succ_self _, cells_newS _ _ _ _⟩⟩ (by simp [Value.oneCell']) (by unfold maxLen; have := HLn.out; omega) (by have := HLn.out; omega) ?_))
              intro v5 w5 hst5 hrow5
              obtain ⟨A5, c5, rfl, _, _⟩ := hrow5.form
              have hsa := step_allocS own2 w3 (.cells #[.int .u64 sa, .int .i64 sn] 44)
              have kcb := hst5.blk (HJ.out.2.1.1.upd hsa.upd (fun h => h)) HJ.out.2.1.2 (by decide)
              have ksb := hst5.blk (HJ.out.2.2.1.1.upd hsa.upd (fun h => h)) HJ.out.2.2.1.2 (by decide)
              have kpc := hst5.blk (HJ.out.2.2.2.1.1.upd hsa.upd (fun h => h)) HJ.out.2.2.2.1.2 (by decide)
              have kot := (HJ.out.2.2.2.2.2.2.step hsa (fun h => h)).step hst5 (by decide)
              obtain ⟨own5, ho5⟩ : ∃ o, ext own2 (w3.alloc (.cells #[.int .u64 sa, .int .i64 sn] 44)) 1 = o := ⟨_, rfl⟩
              rw [ho5] at hst5 hrow5 kcb ksb kpc kot
              have hS5 := (HJ.out.1.trans (hsa.mono (C' := fun x => x < 3) (fun _ h => h.elim))).trans (hst5.mono (C' := fun x => x < 3) (fun x e => by omega))
              have hs6 : Step (· = 0) own5 w5 own5 (w5.setCell ⟨cb, 1, none⟩ (.slice A5 (R.length + 1) c5)) := ⟨(Upd.refl (fun b => own5 b = 0) _).setCell (p := ⟨cb, 1, none⟩) (.inl kcb.2) _, fun _ _ => rfl⟩
              have hu6 : Upd (· = cb) w5 (w5.setCell ⟨cb, 1, none⟩ (.slice A5 (R.length + 1) c5)) := (Upd.refl (· = cb) _).setCell (p := ⟨cb, 1, none⟩) (.inl rfl) _
              have hcell5 : w5.cell? ⟨cb, 1, none⟩ = some (.slice AR R.length cR) := kcb.1.cell 1
              have hfz5 := kcb.1.frozen 1
              have hK := And.intro (hS5.trans (hs6.mono (C' := fun x => x < 3) (fun x e => by omega))) (And.intro (And.intro (show Blk (w5.setCell ⟨cb, 1, none⟩ (.slice A5 (R.length + 1) c5)) cb 40 #[.int .i64 (hd : Int), .slice A5 (R.length + 1) c5, .slice AW W.length cW] from kcb.1.set_ 1 (.slice A5 (R.length + 1) c5)) kcb.2) (And.intro (And.intro (ksb.1.upd hu6 (fun e => HJ.out.2.2.2.2.1.1 e.symm)) ksb.2) (And.intro (And.intro (kpc.1.upd hu6 (fun e => HJ.out.2.2.2.2.1.2.1 e.symm)) kpc.2) (And.intro HJ.out.2.2.2.2.1 (And.intro (show Rw 44 2 own5 1 _ _ (R ++ [(sa, sn)]).length (segsC (R ++ [(sa, sn)])) by rw [segsC_snoc, List.length_append]; exact hrow5.step hs6 (by decide)) (kot.step hs6 (by decide)))))))
              have HK := Lib.hid hK
              clear hst5 hrow5 hsa kcb ksb kpc kot ho5 hS5 hs6 hu6 hK hcx
              cases T1 with
              | true =>
                have HE := Lib.hid (show RES = (((R ++ [(sa, sn)]), W), 0) by rw [← HCh.out, if_neg (fun h => h.elim (fun h => by cases h) (fun h => by cases h.1)), if_pos (of_decide_eq_true HT0.out.2), if_pos (of_decide_eq_true HT0.out.1)])
                go_wp2_with (first | ((with_reducible show wpList _ _ _ ((⟨some 76, _, _, _, _, _⟩ : Oper) :: _) _ _); refine wpList_loadR rfl (.tmp 8) rfl cb [.int .i64 (hd : Int), .slice A5 (R.length + 1) c5, .slice AW W.length cW] _ rfl HK.out.2.1.1 Try.underlying40 rfl (by kernel_rfl) ?_) | ((with_reducible show wpList _ _ _ ((⟨none, _, _, _, _, _⟩ : Oper) :: _) _ _); refine wpList_storeR rfl (.tmp 6) (.tmp 76) rfl pc #[.int .i64 (hd : Int), .slice A5 (R.length + 1) c5, .slice AW W.length cW] rfl rfl _ HK.out.2.2.2.1.1 (by kernel_rfl) rfl (by simp [Value.oneCell']) (fun wF hbF hUF => ?_)))
                simp only [Exit.jump]
                refine bodyPost_ret (results_cell_tmp_row rfl _ _ pc 40 #[.int .i64 (hd : Int), .slice A5 (R.length + 1) c5, .slice AW W.length cW] _ rfl hbF Try.underlying40 rfl (by kernel_rfl)) rfl ?_
                rw [HE.out]
                exact ⟨ext own w d, _, _, rfl, ch_fin own d HK.out.1 hUF HK.out.2.2.2.1.2 HK.out.2.2.2.2.2.1 HK.out.2.2.2.2.2.2⟩
              | false =>
                have HE := Lib.hid (show chainQ base n m q (q.sz - g') (sx : Int) false (R ++ [(sa, sn)]) W = RES by rw [← HCh.out, if_neg (fun h => h.elim (fun h => by cases h) (fun h => by cases h.1)), if_pos (of_decide_eq_true HT0.out.2), if_neg (of_decide_eq_false HT0.out.1)])
                go_wp2
                go_step3
                refine ⟨rfl, ⟨cb, sb, sx, g', false, _, _, _, _, _, _, _, _, _, _, _, _, _, _, _, _, _, _, _, _, _, _, _, _, _, _, _, _, _, _, _, _, _, _, _, _, _, _, _, _, _, _, _, _, _, _, _, _, _, _, _, _, _, _, _, _, _, _, _, _, _, _, _, _, rfl, by omega, own5, (R ++ [(sa, sn)]), W, _, _, sa, sn, HK.out.1, HK.out.2.1, HK.out.2.2.1, HK.out.2.2.2.1, HK.out.2.2.2.2.1, HK.out.2.2.2.2.2.1, HK.out.2.2.2.2.2.2, by rw [List.length_append]; have := HG.out; simp; omega, HG.out.1, HE.out⟩, meas_q _ _ _ HG.out.2.2.1 HG.out.2.2.2⟩
          | false =>
            cases wr with
            | true =>
              have hcx : w3.cell? ⟨cb, 2, none⟩ = some (.slice AW W.length cW) := HJ.out.2.1.1.cell 2
              go_wp2_with (first | ((with_reducible show wpList _ _ _ ((⟨some 62, _, _, _, _, _⟩ : Oper) :: _) _ _); refine wpList_loadR rfl (.tmp 12) rfl sb [.int .u64 sa, .int .i64 sn] _ rfl HJ.out.2.2.1.1 Try.underlying44 rfl (by kernel_rfl) ?_) | ((with_reducible show wpList _ _ _ ((⟨some 64, _, _, _, _, _⟩ : Oper) :: _) _ _); refine wpList_append_rw rfl (.tmp 61) (.tmp 63) _ rfl 44 im zm 2 16 Try.underlying38 HI.out.1 HI.out.2.1 HI.out.2.2.1 HI.out.2.2.2.1 HI.out.2.2.2.2 (by omega) (own := own2) (d := 2) (.slice AW W.length cW) _ _ rfl (HJ.out.2.2.2.2.2.2.step (step_allocS own2 w3 _) (fun h => h)) (w3.heap.size + 1) (some ⟨w3.heap.size, 0, none⟩) 1 1 [.int .u64 sa, .int .i64 sn] rfl ⟨rfl, fun _ => ⟨_, rfl, Nat.lt_succ_self _, cells_newS _ _ _ _⟩⟩ (by simp [Value.oneCell']) (by unfold maxLen; have := HLn.out; omega) (by have := HLn.out; omega) ?_))
              intro v5 w5 hst5 hrow5
              obtain ⟨A5, c5, rfl, _, _⟩ := hrow5.form
              have hsa := step_allocS own2 w3 (.cells #[.int .u64 sa, .int .i64 sn] 44)
              have kcb := hst5.blk (HJ.out.2.1.1.upd hsa.upd (fun h => h)) HJ.out.2.1.2 (by decide)
              have ksb := hst5.blk (HJ.out.2.2.1.1.upd hsa.upd (fun h => h)) HJ.out.2.2.1.2 (by decide)
              have kpc := hst5.blk (HJ.out.2.2.2.1.1.upd hsa.upd (fun h => h)) HJ.out.2.2.2.1.2 (by decide)
              have kot := (HJ.out.2.2.2.2.2.1.step hsa (fun h => h)).step hst5 (by decide)
              obtain ⟨own5, ho5⟩ : ∃ o, ext own2 (w3.alloc (.cells #[.int .u64 sa, .int .i64 sn] 44)) 2 = o := ⟨_, rfl⟩
              rw [ho5] at hst5 hrow5 kcb ksb kpc kot
              have hS5 := (HJ.out.1.trans (hsa.mono (C' := fun x => x < 3) (fun _ h => h.elim))).trans (hst5.mono (C' := fun x => x < 3) (fun x e => by omega))
              have hs6 : Step (· = 0) own5 w5 own5 (w5.setCell ⟨cb, 2, none⟩ (.slice A5 (W.length + 1) c5)) := ⟨(Upd.refl (fun b => own5 b = 0) _).setCell (p := ⟨cb, 2, none⟩) (.inl kcb.2) _, fun _ _ => rfl⟩
              have hu6 : Upd (· = cb) w5 (w5.setCell ⟨cb, 2, none⟩ (.slice A5 (W.length + 1) c5)) := (Upd.refl (· = cb) _).setCell (p := ⟨cb, 2, none⟩) (.inl rfl) _
              have hcell5 : w5.cell? ⟨cb, 2, none⟩ = some (.slice AW W.length cW) := kcb.1.cell 2
              have hfz5 := kcb.1.frozen 2
              have hK := And.intro (hS5.trans (hs6.mono (C' := fun x => x < 3) (fun x e => by omega))) (And.intro (And.intro (show Blk (w5.setCell ⟨cb, 2, none⟩ (.slice A5 (W.length + 1) c5)) cb 40 #[.int .i64 (hd : Int), .slice AR R.length cR, .slice A5 (W.length + 1) c5] from kcb.1.set_ 2 (.slice A5 (W.length + 1) c5)) kcb.2) (And.intro (And.intro (ksb.1.upd hu6 (fun e => HJ.out.2.2.2.2.1.1 e.symm)) ksb.2) (And.intro (And.intro (kpc.1.upd hu6 (fun e => HJ.out.2.2.2.2.1.2.1 e.symm)) kpc.2) (And.intro HJ.out.2.2.2.2.1 (And.intro (kot.step hs6 (by decide)) (show Rw 44 2 own5 2 _ _ (W ++ [(sa, sn)]).length (segsC (W ++ [(sa, sn)])) by rw [segsC_snoc, List.length_append]; exact hrow5.step hs6 (by decide)))))))
              have HK := Lib.hid hK
              clear hst5 hrow5 hsa kcb ksb kpc kot ho5 hS5 hs6 hu6 hK hcx
              cases T1 with
              | true =>
                have HE := Lib.hid (show RES = ((R, (W ++ [(sa, sn)])), 0) by rw [← HCh.out, if_neg (fun h => h.elim (fun h => by cases h) (fun h => absurd h.2 (of_decide_eq_false HT0.out.2))), if_neg (of_decide_eq_false HT0.out.2), if_pos (of_decide_eq_true HT0.out.1)])
                go_wp2_with (first | ((with_reducible show wpList _ _ _ ((⟨some 76, _, _, _, _, _⟩ : Oper) :: _) _ _); refine wpList_loadR rfl (.tmp 8) rfl cb [.int .i64 (hd : Int), .slice AR R.length cR, .slice A5 (W.length + 1) c5] _ rfl HK.out.2.1.1 Try.underlying40 rfl (by kernel_rfl) ?_) | ((with_reducible show wpList _ _ _ ((⟨none, _, _, _, _, _⟩ : Oper) :: _) _ _); refine wpList_storeR rfl (.tmp 6) (.tmp 76) rfl pc #[.int .i64 (hd : Int), .slice AR R.length cR, .slice A5 (W.length + 1) c5] rfl rfl _ HK.out.2.2.2.1.1 (by kernel_rfl) rfl (by simp [Value.oneCell']) (fun wF hbF hUF => ?_)))
                simp only [Exit.jump]
                refine bodyPost_ret (results_cell_tmp_row rfl _ _ pc 40 #[.int .i64 (hd : Int), .slice AR R.length cR, .slice A5 (W.length + 1) c5] _ rfl hbF Try.underlying40 rfl (by kernel_rfl)) rfl ?_
                rw [HE.out]
                exact ⟨ext own w d, _, _, rfl, ch_fin own d HK.out.1 hUF HK.out.2.2.2.1.2 HK.out.2.2.2.2.2.1 HK.out.2.2.2.2.2.2⟩
              | false =>
                have HE := Lib.hid (show chainQ base n m q (q.sz - g') (sx : Int) true R (W ++ [(sa, sn)]) = RES by rw [← HCh.out, if_neg (fun h => h.elim (fun h => by cases h) (fun h => absurd h.2 (of_decide_eq_false HT0.out.2))), if_neg (of_decide_eq_false HT0.out.2), if_neg (of_decide_eq_false HT0.out.1)])
                go_wp2
                go_step3
                refine ⟨rfl, ⟨cb, sb, sx, g', true, _, _, _, _, _, _, _, _, _, _, _, _, _, _, _, _, _, _, _, _, _, _, _, _, _, _, _, _, _, _, _, _, _, _, _, _, _, _, _, _, _, _, _, _, _, _, _, _, _, _, _, _, _, _, _, _, _, _, _, _, _, _, _, _, rfl, by omega, own5, R, (W ++ [(sa, sn)]), _, _, sa, sn, HK.out.1, HK.out.2.1, HK.out.2.2.1, HK.out.2.2.2.1, HK.out.2.2.2.2.1, HK.out.2.2.2.2.2.1, HK.out.2.2.2.2.2.2, by rw [List.length_append]; have := HG.out; simp; omega, HG.out.1, HE.out⟩, meas_q _ _ _ HG.out.2.2.1 HG.out.2.2.2⟩
            | false =>
              have hcx : w3.cell? ⟨cb, 2, none⟩ = some (.slice AW W.length cW) := HJ.out.2.1.1.cell 2
              go_wp2_with (first | ((with_reducible show wpList _ _ _ ((⟨some 62, _, _, _, _, _⟩ : Oper) :: _) _ _); refine wpList_loadR rfl (.tmp 12) rfl sb [.int .u64 sa, .int .i64 sn] _ rfl HJ.out.2.2.1.1 Try.underlying44 rfl (by kernel_rfl) ?_) | ((with_reducible show wpList _ _ _ ((⟨some 64, _, _, _, _, _⟩ : Oper) :: _) _ _); refine wpList_append_rw rfl (.tmp 61) (.tmp 63) _ rfl 44 im zm 2 16 Try.underlying38 HI.out.1 HI.out.2.1 HI.out.2.2.1 HI.out.2.2.2.1 HI.out.2.2.2.2 (by omega) (own := own2) (d := 2) (.slice AW W.length cW) _ _ rfl (HJ.out.2.2.2.2.2.2.step (step_allocS own2 w3 _) (fun h => h)) (w3.heap.size + 1) (some ⟨w3.heap.size, 0, none⟩) 1 1 [.int .u64 sa, .int .i64 sn] rfl ⟨rfl, fun _ => ⟨_, rfl, Nat.lt_succ_self _, cells_newS _ _ _ _⟩⟩ (by simp [Value.oneCell']) (by unfold maxLen; have := HLn.out; omega) (by have := HLn.out; omega) ?_))
              intro v5 w5 hst5 hrow5
              obtain ⟨A5, c5, rfl, _, _⟩ := hrow5.form
              have hsa := step_allocS own2 w3 (.cells #[.int .u64 sa, .int .i64 sn] 44)
              have kcb := hst5.blk (HJ.out.2.1.1.upd hsa.upd (fun h => h)) HJ.out.2.1.2 (by decide)
              have ksb := hst5.blk (HJ.out.2.2.1.1.upd hsa.upd (fun h => h)) HJ.out.2.2.1.2 (by decide)
              have kpc := hst5.blk (HJ.out.2.2.2.1.1.upd hsa.upd (fun h => h)) HJ.out.2.2.2.1.2 (by decide)
              have kot := (HJ.out.2.2.2.2.2.1.step hsa (fun h => h)).step hst5 (by decide)
              obtain ⟨own5, ho5⟩ : ∃ o, ext own2 (w3.alloc (.cells #[.int .u64 sa, .int .i64 sn] 44)) 2 = o := ⟨_, rfl⟩
              rw [ho5] at hst5 hrow5 kcb ksb kpc kot
              have hS5 := (HJ.out.1.trans (hsa.mono (C' := fun x => x < 3) (fun _ h => h.elim))).trans (hst5.mono (C' := fun x => x < 3) (fun x e => by omega))
              have hs6 : Step (· = 0) own5 w5 own5 (w5.setCell ⟨cb, 2, none⟩ (.slice A5 (W.length + 1) c5)) := ⟨(Upd.refl (fun b => own5 b = 0) _).setCell (p := ⟨cb, 2, none⟩) (.inl kcb.2) _, fun _ _ => rfl⟩
              have hu6 : Upd (· = cb) w5 (w5.setCell ⟨cb, 2, none⟩ (.slice A5 (W.length + 1) c5)) := (Upd.refl (· = cb) _).setCell (p := ⟨cb, 2, none⟩) (.inl rfl) _
              have hcell5 : w5.cell? ⟨cb, 2, none⟩ = some (.slice AW W.length cW) := kcb.1.cell 2
              have hfz5 := kcb.1.frozen 2
              have hK := And.intro (hS5.trans (hs6.mono (C' := fun x => x < 3) (fun x e => by omega))) (And.intro (And.intro (show Blk (w5.setCell ⟨cb, 2, none⟩ (.slice A5 (W.length + 1) c5)) cb 40 #[.int .i64 (hd : Int), .slice AR R.length cR, .slice A5 (W.length + 1) c5] from kcb.1.set_ 2 (.slice A5 (W.length + 1) c5)) kcb.2) (And.intro (And.intro (ksb.1.upd hu6 (fun e => HJ.out.2.2.2.2.1.1 e.symm)) ksb.2) (And.intro (And.intro (kpc.1.upd hu6 (fun e => HJ.out.2.2.2.2.1.2.1 e.symm)) kpc.2) (And.intro HJ.out.2.2.2.2.1 (And.intro (kot.step hs6 (by decide)) (show Rw 44 2 own5 2 _ _ (W ++ [(sa, sn)]).length (segsC (W ++ [(sa, sn)])) by rw [segsC_snoc, List.length_append]; exact hrow5.step hs6 (by decide)))))))
              have HK := Lib.hid hK
              clear hst5 hrow5 hsa kcb ksb kpc kot ho5 hS5 hs6 hu6 hK hcx
              cases T1 with
              | true =>
                have HE := Lib.hid (show RES = ((R, (W ++ [(sa, sn)])), 0) by rw [← HCh.out, if_neg (fun h => h.elim (fun h => by cases h) (fun h => absurd h.2 (of_decide_eq_false HT0.out.2))), if_neg (of_decide_eq_false HT0.out.2), if_pos (of_decide_eq_true HT0.out.1)])
                go_wp2_with (first | ((with_reducible show wpList _ _ _ ((⟨some 76, _, _, _, _, _⟩ : Oper) :: _) _ _); refine wpList_loadR rfl (.tmp 8) rfl cb [.int .i64 (hd : Int), .slice AR R.length cR, .slice A5 (W.length + 1) c5] _ rfl HK.out.2.1.1 Try.underlying40 rfl (by kernel_rfl) ?_) | ((with_reducible show wpList _ _ _ ((⟨none, _, _, _, _, _⟩ : Oper) :: _) _ _); refine wpList_storeR rfl (.tmp 6) (.tmp 76) rfl pc #[.int .i64 (hd : Int), .slice AR R.length cR, .slice A5 (W.length + 1) c5] rfl rfl _ HK.out.2.2.2.1.1 (by kernel_rfl) rfl (by simp [Value.oneCell']) (fun wF hbF hUF => ?_)))
                simp only [Exit.jump]
                refine bodyPost_ret (results_cell_tmp_row rfl _ _ pc 40 #[.int .i64 (hd : Int), .slice AR R.length cR, .slice A5 (W.length + 1) c5] _ rfl hbF Try.underlying40 rfl (by kernel_rfl)) rfl ?_
                rw [HE.out]
                exact ⟨ext own w d, _, _, rfl, ch_fin own d HK.out.1 hUF HK.out.2.2.2.1.2 HK.out.2.2.2.2.2.1 HK.out.2.2.2.2.2.2⟩
              | false =>
                have HE := Lib.hid (show chainQ base n m q (q.sz - g') (sx : Int) true R (W ++ [(sa, sn)]) = RES by rw [← HCh.out, if_neg (fun h => h.elim (fun h => by cases h) (fun h => absurd h.2 (of_decide_eq_false HT0.out.2))), if_neg (of_decide_eq_false HT0.out.2), if_neg (of_decide_eq_false HT0.out.1)])
                go_wp2
                go_step3
                refine ⟨rfl, ⟨cb, sb, sx, g', true, _, _, _, _, _, _, _, _, _, _, _, _, _, _, _, _, _, _, _, _, _, _, _, _, _, _, _, _, _, _, _, _, _, _, _, _, _, _, _, _, _, _, _, _, _, _, _, _, _, _, _, _, _, _, _, _, _, _, _, _, _, _, _, _, rfl, by omega, own5, R, (W ++ [(sa, sn)]), _, _, sa, sn, HK.out.1, HK.out.2.1, HK.out.2.2.1, HK.out.2.2.2.1, HK.out.2.2.2.2.1, HK.out.2.2.2.2.2.1, HK.out.2.2.2.2.2.2, by rw [List.length_append]; have := HG.out; simp; omega, HG.out.1, HE.out⟩, meas_q _ _ _ HG.out.2.2.1 HG.out.2.2.2⟩
end
end Go.Proofs.Ytjhibbhinbdciaa
