import Derived.Test.YtpknabblllighaaVw2
/- The document's switch: Send. -/
namespace Go.Proofs.Ytpknabblllighaa
set_option linter.unusedVariables false
set_option linter.unusedSimpArgs false
open Go.RowKit Go.Maps
set_option maxRecDepth 100000
theorem wpList_allocM {ops : Array Oper} {Q : Exit → Act → World → Prop} {a : Act} {w : World} {rest : List Oper} {o : Oper} (hg : o.guard = none) (hop : o.op = .alloc 52)
    (h : ∀ b w', w.heap.size ≤ b → b < w'.heap.size → Blk w' b 52 z6 → Upd (fun _ => False) w w' → wpList Try.prog ops Q rest (a.put o.dst (.pointer (some ⟨b, 0, none⟩))) w') : wpList Try.prog ops Q (o :: rest) a w :=
  wpList_plain hg fun _ hK => wp_run (exec_alloc hop (allocM w)) (hK _ _ (h _ _ (Nat.le_refl _) (Blk.new _ _ _).lt (Blk.new _ _ _) ((Upd.refl _ _).alloc _)))
theorem wpList_storeM {ops : Array Oper} {Q : Exit → Act → World → Prop} {a : Act} {w : World} {rest : List Oper} {o : Oper} (hg : o.guard = none) (x y : Operand) (hop : o.op = .store 52 x y) (b : Nat) (k : List Int) (hk : k.length = 6) (hx : a.eval x = .pointer (some ⟨b, 0, none⟩)) (hy : a.eval y = encC k)
    (cs : Array Value) (hcs : cs.size = 6) (hb : Blk w b 52 cs)
    (h : ∀ w', Blk w' b 52 (u8L k).toArray → Upd (· = b) w w' → wpList Try.prog ops Q rest (a.put o.dst undef) w') : wpList Try.prog ops Q (o :: rest) a w := by
  refine wpList_plain hg fun _ hK => ?_
  have hsz : (u8L k).toArray.size = 6 := by simp [u8L, hk]
  exact wp_store_row _ x y hop b _ hx (show a.eval y = .agg (u8L k).toArray from hy) _ cs hb (by rw [hsz]; exact infoM) (by rw [hsz, hcs]) (Array.all_eq_true_iff_forall_mem.2 (fun v hv => u8L_one k v (by simpa using hv))) (hK _ _ (h _ (hb.setRow _) ((Upd.refl (fun x => x = b) _).setRow (g := b) (.inl rfl) _)))
theorem ex_loadM {a : Act} {w : World} {o : Oper} (x : Operand) (hop : o.op = .load 52 x) (g q : Nat) (k : List Int) (hk : k.length = 6) (hx : a.eval x = .pointer (some ⟨g, q, none⟩)) (hb : w.rangeAt g q (u8L k)) :
    (execOp a.eval o).run Try.prog w = .ok (.value (encC k)) w :=
  exec_load hop _ hx (run_loadAt_mid w g q _ (u8L k) _ hb Try.underlying52 rfl (by rw [infoM, u8L, List.length_map, hk]))
theorem blk_range {w : World} {g : Nat} {t : TypeId} {l : List Value} (h : Blk w g t l.toArray) : w.rangeAt g 0 l := fun j v hv => by
  rw [h.cell]
  simpa using hv
theorem mac_parts : ∃ (i : TypeInfo) (z : Value), Try.prog.info? 57 = some i ∧ i.zero = some z ∧ i.size = 7 ∧ i.bytes = 16 ∧ z.cells.size = 7 := by
  have h : (Try.prog.info? 57).map (fun i => (i.zero, i.size, i.bytes)) = some (some (.agg #[.int .u8 0, .int .u8 0, .int .u8 0, .int .u8 0, .int .u8 0, .int .u8 0, .int .i64 0]), 7, 16) := by kernel_rfl
  obtain ⟨i, hi, hz, hs, hb⟩ := info_parts h
  exact ⟨i, _, hi, hz, hs, hb, rfl⟩
theorem mac_build6 (k0 k1 k2 k3 k4 k5 q : Int) (w : World) : (Instr.build 57 #[(0, .agg #[.int .u8 k0, .int .u8 k1, .int .u8 k2, .int .u8 k3, .int .u8 k4, .int .u8 k5]), (1, .int .i64 q)]).run Try.prog w = .ok (.agg #[.int .u8 k0, .int .u8 k1, .int .u8 k2, .int .u8 k3, .int .u8 k4, .int .u8 k5, .int .i64 q]) w := by kernel_rfl
theorem mac_build (k : List Int) (hk : k.length = 6) (q : Nat) (w : World) : (Instr.build 57 #[(0, .agg (u8L k).toArray), (1, .int .i64 (q : Int))]).run Try.prog w = .ok (.agg (macC (k, q)).toArray) w := by
  match k, hk with
  | [k0, k1, k2, k3, k4, k5], _ => exact mac_build6 ..
theorem mac_slice (e : Mac) (he : e.1.length = 6) (w : World) : (Instr.buildSlice 37 1 #[(0, .agg (macC e).toArray)]).run Try.prog w = .ok (.slice (some ⟨w.heap.size, 0, none⟩) 1 1) (w.alloc (.cells (macC e).toArray 57)) := by
  obtain ⟨i, z, hi, hz, hs, _, _⟩ := mac_parts
  exact run_buildSlice1 w _ _ i z Try.underlying37 hi hz (by omega) (by omega) _ (by rw [hs]; simpa using macC_len e he)
theorem exec_build2 {P : Program} {a : Act} {w w' : World} {o : Oper} {v : Value} {t : TypeId} {x y : Operand} (hop : o.op = .build t #[(0, x), (1, y)]) (u u' : Value) (hu : a.eval x = u) (hu' : a.eval y = u') (h : (Instr.build t #[(0, u), (1, u')]).run P w = .ok v w') : (execOp a.eval o).run P w = .ok (.value v) w' := by
  simp [execOp, hop, hu, hu', h]
theorem cells_newL (w : World) (t : TypeId) (xs : List Value) : ∀ j u, xs[j]? = some u → (w.alloc (.cells xs.toArray t)).cell? ((⟨w.heap.size, 0, none⟩ : Addr).add j) = some u := by
  intro j u h
  rw [show (⟨w.heap.size, 0, none⟩ : Addr).add j = ⟨w.heap.size, j, none⟩ from by unfold Addr.add; split <;> simp_all, (Blk.new w t xs.toArray).cell]
  simpa using h
theorem macC_one (e : Mac) : ∀ u ∈ macC e, u.oneCell' = true := fun u hu => by
  rcases List.mem_append.1 hu with hu | hu
  · exact u8L_one _ u hu
  · simp at hu; subst hu; rfl
theorem learnW_ok {ports : Nat} {l : List Mac} (h6 : ∀ e ∈ l, e.1.length = 6) (hpl : ∀ e ∈ l, e.2 < ports) (hl : l.length ≤ 32) (port : Nat) (hp : port < ports) (fr : List Int) (hf : fr.length = 6) (f0 : Int) :
    (∀ e ∈ learnW l port fr f0, e.1.length = 6) ∧ (∀ e ∈ learnW l port fr f0, e.2 < ports) ∧ (learnW l port fr f0).length ≤ 32 := by
  unfold learnW
  split
  · refine ⟨fun e he => ?_, fun e he => ?_, by simpa using hl⟩
    · obtain ⟨x, hx, rfl⟩ := List.mem_map.1 he
      rw [updM_fst]; exact h6 x hx
    · obtain ⟨x, hx, rfl⟩ := List.mem_map.1 he
      unfold updM
      split
      · exact hp
      · exact hpl x hx
  · split
    · rename_i hc
      refine ⟨fun e he => ?_, fun e he => ?_, by simp; omega⟩
      · rcases List.mem_append.1 he with he | he
        · exact h6 e he
        · simp at he; subst he; exact hf
      · rcases List.mem_append.1 he with he | he
        · exact hpl e he
        · simp at he; subst he; exact hp
    · exact ⟨h6, hpl, hl⟩
theorem Rw.one (e : TypeId) (own : Nat → Nat) (d : Nat) (w : World) (u : Value) : Rw e 1 (ext own w d) d (w.alloc (.cells #[u] e)) (.slice (some ⟨w.heap.size, 0, none⟩) 1 1) 1 [u] :=
  ⟨rfl, .inr ⟨w.heap.size, 0, 1, #[u], rfl, ext_new _ _ _ (Nat.le_refl _), Blk.new _ _ _, Nat.le_refl _, by unfold maxLen; omega, Nat.le_refl _, rfl⟩⟩
theorem learnW_no {l : List Mac} {port : Nat} {fr : List Int} {f0 : Int} (h : ¬ (anyW l fr = false ∧ f0 % 2 = 0 ∧ l.length < 32)) : learnW l port fr f0 = l.map (updM port fr) := by
  unfold learnW
  by_cases ha : anyW l fr = true
  · rw [if_pos ha]
  · have ha' : anyW l fr = false := by simpa using ha
    rw [if_neg ha, if_neg (fun hc => h ⟨ha', hc⟩), map_none ha']
theorem learnW_yes {l : List Mac} {port : Nat} {fr : List Int} {f0 : Int} (h : anyW l fr = false ∧ f0 % 2 = 0 ∧ l.length < 32) : learnW l port fr f0 = l ++ [(fr, port)] := by
  unfold learnW
  rw [if_neg (by rw [h.1]; decide), if_pos h.2]
theorem meas_lt0 (ports k : Nat) (h : k < ports) : ports - (intOf (.int .i64 ((k : Int) + 1))).toNat < ports - (intOf (.int .i64 (k : Int))).toNat := by
  have e1 : (intOf (.int .i64 ((k : Int) + 1))).toNat = k + 1 := by show ((k : Int) + 1).toNat = k + 1; omega
  have e2 : (intOf (.int .i64 (k : Int))).toNat = k := by show ((k : Int)).toNat = k; omega
  rw [e1, e2]
  omega
theorem meas_lt' (ports k : Nat) (h : k < ports) (h8 : ports ≤ 4194304) : ports - (intOf (.int .i64 (wrap64 ((k : Int) + 1)))).toNat < ports - (intOf (.int .i64 (k : Int))).toNat := by
  rw [IntWalk.wrap64_in ((k : Int) + 1) (by omega)]
  have e1 : (intOf (.int .i64 ((k : Int) + 1))).toNat = k + 1 := by show ((k : Int) + 1).toNat = k + 1; omega
  have e2 : (intOf (.int .i64 (k : Int))).toNat = k := by show ((k : Int)).toNat = k; omega
  rw [e1, e2]
  omega
/-- a frame is refused -/
theorem ref_Send_no {w : World} {p : Nat} {ports : Nat} {v : Value} (h : Blk w p 39 #[.int .i64 (ports : Int), v]) (hp : ports ≤ 8) (port : Int) (A : Option Addr) (n cap : Nat)
    (hno : ¬ (0 ≤ port ∧ port < (ports : Int) ∧ 14 ≤ n)) :
    Calls Try.prog 11 #[.pointer (some ⟨p, 0, none⟩), .int .i64 port, .slice A n cap] w fun e w' => e = .returned (.slice none 0 0) ∧ w' = w := by
  have c0 : w.cell? ⟨p, 0, none⟩ = some (.int .i64 (ports : Int)) := h.cell 0
  clear h
  have hcs : port < 0 ∨ (¬ port < 0 ∧ (ports : Int) ≤ port) ∨ (¬ port < 0 ∧ ¬ (ports : Int) ≤ port ∧ (n : Int) < 14) := by omega
  go_enter Try.func11, Try.ntmps11
  rcases hcs with h2 | ⟨h2, h3⟩ | ⟨h2, h3, h4⟩
  all_goals
    go_wp2
    go_ret
    exact ⟨rfl, rfl⟩
set_option maxHeartbeats 4000000 in
/-- a frame is sent -/
theorem ref_Send {own : Nat → Nat} {c d : Nat} {w : World} {p ports : Nat} {l : List Mac} (h : WAt own c d w p ports l) (hcd : c ≠ d) (hp : ports ≤ 8) (h6 : ∀ e ∈ l, e.1.length = 6) (hpl : ∀ e ∈ l, e.2 < ports) (hl32 : l.length ≤ 32) (port : Nat) (hpt : port < ports)
    (A : Option Addr) (n cap : Nat) (bs : List Int) (hr : Reads w w.heap.size 1 A n (bs.map (fun b => Value.int .u8 b))) (hb8 : ∀ b ∈ bs, 0 ≤ b ∧ b < 256)
    (hn : 14 ≤ n) (hcap : n ≤ cap) (hcm : cap ≤ 9223372036854775807) (f0 : Int) (tk fr : List Int) (hto : bs.take 6 = tk) (hfr : (bs.drop 6).take 6 = fr) (hf0 : fr.head? = some f0) (dr : Nat) (hrc : dr ≠ c) (hrd : dr ≠ d) :
    Calls Try.prog 11 #[.pointer (some ⟨p, 0, none⟩), .int .i64 (port : Int), .slice A n cap] w fun e w' => ∃ v own', e = .returned v ∧ Step (fun x => x = c ∨ x = d) own w own' w' ∧ WAt own' c d w' p ports (learnW l port fr f0) ∧
      Rw 3 1 own' dr w' v (outS ports port (findW (learnW l port fr f0) tk)).length (psC (outS ports port (findW (learnW l port fr f0) tk))) := by
  have hbl : bs.length = n := by have := hr.1; simpa using this
  have ht6 : tk.length = 6 := by rw [← hto, List.length_take]; omega
  have hf6 : fr.length = 6 := by rw [← hfr, List.length_take, List.length_drop]; omega
  obtain ⟨g, o, rfl, hgl, hc⟩ := hr.first (by omega) (by decide)
  have hrt : w.rangeAt g o (u8L tk) := fun j v hv => hc j v (by
    rw [← hto, u8L, List.map_take, List.getElem?_take] at hv
    split at hv
    · exact hv
    · cases hv)
  have hrf : w.rangeAt g (o + 6) (u8L fr) := fun j v hv => by
    rw [Nat.add_assoc]
    refine hc (6 + j) v ?_
    rw [← hfr, u8L, List.map_take, List.getElem?_take, List.map_drop, List.getElem?_drop] at hv
    split at hv
    · exact hv
    · cases hv
  have hF0 : 0 ≤ f0 ∧ f0 < 256 := hb8 f0 (by have := List.mem_of_mem_head? hf0; rw [← hfr] at this; exact List.mem_of_mem_drop (List.mem_of_mem_take this))
  obtain ⟨v, hb, ho, hrw⟩ := h
  have c0 : w.cell? ⟨p, 0, none⟩ = some (.int .i64 (ports : Int)) := hb.cell 0
  have hlp := hb.lt
  have HM1 := Lib.hid (ref_mac w g (o + 6) (cap - 6) fr hf6 hrf hgl)
  have HW := Lib.hid (And.intro (And.intro hb ho) hrw)
  have HR := Lib.hid (And.intro hrt hgl)
  have HL := Lib.hid (And.intro (And.intro ht6 hf6) (And.intro h6 (And.intro hpl hl32)))
  have HF := Lib.hid (And.intro hF0 hf0)
  have HC := Lib.hid (And.intro hcd (And.intro hrc (And.intro hrd hp)))
  have h1 : ¬ ((port : Int) < 0) := by omega
  have h2 : ¬ ((ports : Int) ≤ (port : Int)) := by omega
  have h3 : ¬ ((n : Int) < 14) := by omega
  have h6' : (6 : Nat) ≤ cap := by omega
  have h12 : (12 : Nat) ≤ cap := by omega
  have hc6 : ¬ cap = 6 := by omega
  clear hb ho hrw hrt hrf hc ht6 hf6 h6 hpl hl32 hr hb8 hbl hto hfr hF0 hf0 hcd hrc hrd
  go_enter Try.func11, Try.ntmps11
  go_wp2_with fail
  ((with_reducible refine HM1.out.mono ?_); rintro e w1 ⟨rfl, hU1⟩)
  have HU1 := Lib.hid hU1
  clear hU1 HM1
  go_upto_region 4 with (first | ((with_reducible show wpList _ _ _ ((⟨some 7, _, _, _, _, _⟩ : Oper) :: _) _ _); refine wpList_allocM rfl rfl (fun p7 w2 hge7 hlt7 hb7 hU2 => ?_)) | ((with_reducible show wpList _ _ _ ((⟨none, _, _, _, _, _⟩ : Oper) :: _) _ _); refine wpList_storeM rfl (.tmp 7) (.tmp 31) rfl p7 fr HL.out.1.2 rfl rfl z6 rfl hb7 (fun w3 hb3 hU3 => ?_)))
  have hge7' := Nat.le_trans HU1.out.size hge7
  have hU4 : Upd (fun _ => False) w w3 := (HU1.out.trans hU2).trans' hU3 (fun i hi e => by omega)
  have HM2 := Lib.hid (ref_mac w3 g o cap tk HL.out.1.1 (rangeAt_upd HR.out.1 hU4 HR.out.2 (fun h => h)) (Nat.lt_of_lt_of_le HR.out.2 hU4.size))
  have H4 := Lib.hid (And.intro hU4 (And.intro hb3 hge7'))
  clear hU4 hb3 hge7 hge7' hlt7 hb7 hU2 hU3 HU1
  go_wp2_with fail
  ((with_reducible refine HM2.out.mono ?_); rintro e w4 ⟨rfl, hU5⟩)
  have HU5 := Lib.hid hU5
  clear hU5 HM2
  go_upto_region 5 with (first | ((with_reducible show wpList _ _ _ ((⟨some 8, _, _, _, _, _⟩ : Oper) :: _) _ _); refine wpList_allocM rfl rfl (fun p8 w5 hge8 hlt8 hb8 hU6 => ?_)) | ((with_reducible show wpList _ _ _ ((⟨none, _, _, _, _, _⟩ : Oper) :: _) _ _); refine wpList_storeM rfl (.tmp 8) (.tmp 34) rfl p8 tk HL.out.1.1 rfl rfl z6 rfl hb8 (fun w6 hb6 hU7 => ?_)))
  have hb7 := (H4.out.2.1.upd HU5.out (fun h => h)).upd hU6 (fun h => h)
  have h78 : p7 ≠ p8 := by have := (H4.out.2.1.upd HU5.out (fun h => h)).lt; omega
  have hb7 := hb7.upd hU7 (fun h => h78 h)
  have hU8 : Upd (fun _ => False) w w6 := ((H4.out.1.trans HU5.out).trans hU6).trans' hU7 (fun i hi e => by have := (H4.out.1.trans HU5.out).size; omega)
  have hge8' := Nat.le_trans (H4.out.1.trans HU5.out).size hge8
  have hst : Step (fun _ => False) own w (ext own w dr) w6 := ⟨hU8, fun b hb => ext_old _ _ _ hb⟩
  obtain ⟨hbp, hop⟩ := hst.blk HW.out.1.1 HW.out.1.2 (fun h => h)
  have hrw := HW.out.2.step hst (fun h => h)
  have ho7 : ext own w dr p7 = dr := ext_new _ _ _ H4.out.2.2
  have ho8 : ext own w dr p8 = dr := ext_new _ _ _ hge8'
  have H6 := Lib.hid (And.intro hst (And.intro (And.intro hbp hop) (And.intro hrw (And.intro (And.intro hb7 ho7) (And.intro hb6 ho8)))))
  clear hb7 hU8 hge8' hst hbp hop hrw ho7 ho8 H4 HU5 HW HR hge8 hlt8 hb8 hU6 hb6 hU7 h78 c0 hlp hgl
  generalize ext own w dr = own1 at *
  go_wp2_with fail
  clear hb7
  obtain ⟨A1, cap1, rfl, hcap1, hform⟩ := H6.out.2.2.1.form
  clear hcap1 hform
  clear h1 h2 h3 h6' h12 hc6
  go_loopw [9, 10] (fun kn i wr => ∃ (j : Nat), j ≤ l.length ∧ i = .int .i64 (j : Int) ∧ kn = .bool (anyW (l.take j) fr) ∧ Hid (Step (· = d) own1 w6 own1 wr ∧ Rw 57 7 own1 d wr (.slice A1 l.length cap1) l.length (macsC (upW l port fr j)))) (fun _ i _ => l.length - (intOf i).toNat)
  case atStart => exact ⟨0, by omega, rfl, rfl, Step.refl _ _ _, by rw [upW_zero]; exact H6.out.2.2.1⟩
  case round =>
    obtain ⟨j, hj, rfl, rfl, HLo⟩ := hrel
    have hbp := (HLo.out.1.blk H6.out.2.1.1 H6.out.2.1.2 HC.out.1).1
    have hb7 := (HLo.out.1.blk H6.out.2.2.2.1.1 H6.out.2.2.2.1.2 HC.out.2.2.1).1
    have c1 : wr.cell? ⟨p, 1, none⟩ = some (.slice A1 l.length cap1) := hbp.cell 1
    have c0 : wr.cell? ⟨p, 0, none⟩ = some (.int .i64 (ports : Int)) := hbp.cell 0
    by_cases hlt : j < l.length
    · obtain ⟨e, he⟩ : ∃ e, l[j]? = some e := ⟨_, List.getElem?_eq_getElem hlt⟩
      have heu : (upW l port fr j)[j]? = some e := by rw [upW_get, if_neg (by omega), he]
      have he6 : e.1.length = 6 := HL.out.2.1 e (List.mem_of_getElem? he)
      obtain ⟨g1, o1, rfl, ho1, hg1, hcs⟩ : ∃ g1 o1, A1 = some ⟨g1, o1, none⟩ ∧ own1 g1 = d ∧ (∀ q, wr.frozen? ⟨g1, q, none⟩ = false) ∧ ∀ q u, (macsC (upW l port fr j))[q]? = some u → wr.cell? ⟨g1, o1 + q, none⟩ = some u := by
        obtain ⟨A, cp, hv, _, hf⟩ := HLo.out.2.form
        cases hv
        obtain ⟨g1, o1, hA, ho, hl, _, hc⟩ := hf (by omega)
        refine ⟨g1, o1, hA, ho, ?_, hc⟩
        rcases HLo.out.2.2 with ⟨e1, e2⟩ | ⟨g', o', cap', cur, hv, ho', hb, _⟩
        · exact absurd e2 (by omega)
        · rw [hA] at hv; cases hv; exact fun q => hb.frozen q
      have hR9 : wr.rangeAt g1 (o1 + j * 7) (u8L e.1) := fun q u hu => by
        rw [Nat.add_assoc]; exact hcs _ _ (macsC_at _ (upW_six HL.out.2.1 port fr j) j e heu q u (macC_addr e he6 q u hu))
      have x6 : wr.cell? ⟨g1, o1 + j * 7 + 6, none⟩ = some (.int .i64 (e.2 : Int)) := by
        rw [Nat.add_assoc]; exact hcs _ _ (macsC_at _ (upW_six HL.out.2.1 port fr j) j e heu 6 _ (macC_last e he6))
      have z6' := hg1 (o1 + j * 7 + 6)
      have hji : (j : Int) < (l.length : Int) := by omega
      obtain ⟨E, hE⟩ : ∃ E : Bool, decide (e.1 = fr) = E := ⟨_, rfl⟩
      have te : ∀ w : World, (Op.equalIn 10000 52 (.agg (u8L e.1).toArray) (.agg (u8L fr).toArray)).run Try.prog w = .ok E w := fun w => by have := mac_eq _ _ he6 HL.out.1.2 w; rw [hE] at this; exact this
      have hsucc := anyW_succ (fr := fr) he
      rw [hE] at hsucc
      have HX := Lib.hid (And.intro he (And.intro heu (And.intro hsucc (And.intro hE (And.intro hR9 (And.intro (blk_range hb7) he6))))))
      have HQ := Lib.hid (IntWalk.wrap64_in ((j : Int) + 1) (by have := HL.out.2.2.2; omega))
      clear hcs hg1 hR9 he6 heu he hsucc hE hbp hb7
      go_wp2_with fail
      refine wpE_region (S := fun (W' : World) => W' = wr.drew) (s := 9) (by kernel_rfl) ?_
      have hS : (fun (W' : World) => W' = wr.drew) _ := rfl
      refine wpE_take (i := 0) (oi := { dst := some 44, op := Go.Op.move (Go.Operand.tmp 0), type := 28, pos := "ref.go:402", after := #[], guard := none }) (v := ?_) rfl (by kernel_rfl) (fun _ _ _ h => h) (Or.inl ⟨by rfl, fun W hW => ?_⟩) hS ?_
      rotate_left
      · (obtain rfl : W = wr.drew := hW); go_simp; (try go_bits); (try rw [if_pos (by omega)]); (try with_reducible rfl)
      (try simp only [Act.put, List.setIfInBounds_toArray, List.set_cons_succ, List.set_cons_zero])
      refine wpE_take (i := 1) (oi := { dst := some 45, op := Go.Op.nilCheck (Go.Operand.tmp 44), type := 0, pos := "ref.go:402", after := #[{ on := 0, ground := Go.Ground.data }], guard := none }) (v := ?_) rfl (by kernel_rfl) (fun _ _ _ h => h) (Or.inl ⟨by rfl, fun W hW => ?_⟩) hS ?_
      rotate_left
      · (obtain rfl : W = wr.drew := hW); go_simp; (try go_bits); (try rw [if_pos (by omega)]); (try with_reducible rfl)
      (try simp only [Act.put, List.setIfInBounds_toArray, List.set_cons_succ, List.set_cons_zero])
      refine wpE_take (i := 2) (oi := { dst := some 46, op := Go.Op.fieldAddr 39 (Go.Operand.tmp 45) 1, type := 0, pos := "ref.go:402", after := #[{ on := 1, ground := Go.Ground.data }], guard := none }) (v := ?_) rfl (by kernel_rfl) (fun _ _ _ h => h) (Or.inl ⟨by rfl, fun W hW => ?_⟩) hS ?_
      rotate_left
      · (obtain rfl : W = wr.drew := hW); go_simp; (try go_bits); (try rw [if_pos (by omega)]); (try with_reducible rfl)
      (try simp only [Act.put, List.setIfInBounds_toArray, List.set_cons_succ, List.set_cons_zero])
      refine wpE_take (i := 3) (oi := { dst := some 47, op := Go.Op.load 37 (Go.Operand.tmp 46), type := 37, pos := "ref.go:402", after := #[{ on := 2, ground := Go.Ground.data }], guard := none }) (v := ?_) rfl (by kernel_rfl) (fun _ _ _ h => h) (Or.inl ⟨by rfl, fun W hW => ?_⟩) hS ?_
      rotate_left
      · (obtain rfl : W = wr.drew := hW); go_simp; (try go_bits); (try rw [if_pos (by omega)]); (try with_reducible rfl)
      (try simp only [Act.put, List.setIfInBounds_toArray, List.set_cons_succ, List.set_cons_zero])
      refine wpE_take (i := 4) (oi := { dst := some 48, op := Go.Op.move (Go.Operand.tmp 10), type := 3, pos := "ref.go:402", after := #[], guard := none }) (v := ?_) rfl (by kernel_rfl) (fun _ _ _ h => h) (Or.inl ⟨by rfl, fun W hW => ?_⟩) hS ?_
      rotate_left
      · (obtain rfl : W = wr.drew := hW); go_simp; (try go_bits); (try rw [if_pos (by omega)]); (try with_reducible rfl)
      (try simp only [Act.put, List.setIfInBounds_toArray, List.set_cons_succ, List.set_cons_zero])
      refine wpE_take (i := 5) (oi := { dst := some 49, op := Go.Op.indexAddr 37 (Go.Operand.tmp 47) (Go.Operand.tmp 48), type := 0, pos := "ref.go:402", after := #[{ on := 3, ground := Go.Ground.data }, { on := 4, ground := Go.Ground.data }], guard := none }) (v := ?_) rfl (by kernel_rfl) (fun _ _ _ h => h) (Or.inl ⟨by rfl, fun W hW => ?_⟩) hS ?_
      rotate_left
      · (obtain rfl : W = wr.drew := hW); go_simp; (try go_bits); (try rw [if_pos (by omega)]); (try with_reducible rfl)
      (try simp only [Act.put, List.setIfInBounds_toArray, List.set_cons_succ, List.set_cons_zero])
      refine wpE_take (i := 6) (oi := { dst := some 50, op := Go.Op.fieldAddr 57 (Go.Operand.tmp 49) 0, type := 0, pos := "ref.go:402", after := #[{ on := 5, ground := Go.Ground.data }], guard := none }) (v := ?_) rfl (by kernel_rfl) (fun _ _ _ h => h) (Or.inl ⟨by rfl, fun W hW => ?_⟩) hS ?_
      rotate_left
      · (obtain rfl : W = wr.drew := hW); go_simp; (try go_bits); (try rw [if_pos (by omega)]); (try with_reducible rfl)
      (try simp only [Act.put, List.setIfInBounds_toArray, List.set_cons_succ, List.set_cons_zero])
      refine wpE_take (i := 7) (oi := { dst := some 51, op := Go.Op.load 52 (Go.Operand.tmp 50), type := 52, pos := "ref.go:402", after := #[{ on := 6, ground := Go.Ground.data }], guard := none }) (v := .agg (u8L e.1).toArray) rfl (by kernel_rfl) (fun _ _ _ h => h) (Or.inl ⟨by rfl, fun W hW => ?_⟩) hS ?_
      · (obtain rfl : W = wr.drew := hW); exact ex_loadM (.tmp 50) rfl g1 (o1 + j * 7) e.1 HX.out.2.2.2.2.2.2 rfl (show wr.drew.rangeAt _ _ _ from HX.out.2.2.2.2.1)
      (try simp only [Act.put, List.setIfInBounds_toArray, List.set_cons_succ, List.set_cons_zero])
      refine wpE_take (i := 8) (oi := { dst := some 52, op := Go.Op.load 52 (Go.Operand.tmp 7), type := 52, pos := "ref.go:402", after := #[], guard := none }) (v := .agg (u8L fr).toArray) rfl (by kernel_rfl) (fun _ _ _ h => h) (Or.inl ⟨by rfl, fun W hW => ?_⟩) hS ?_
      · (obtain rfl : W = wr.drew := hW); exact ex_loadM (.tmp 7) rfl p7 0 fr HL.out.1.2 rfl (show wr.drew.rangeAt _ _ _ from HX.out.2.2.2.2.2.1)
      (try simp only [Act.put, List.setIfInBounds_toArray, List.set_cons_succ, List.set_cons_zero])
      refine wpE_last (oi := { dst := some 53, op := Go.Op.binOp Go.BinOp.eql 52 (Go.Operand.tmp 51) (Go.Operand.tmp 52) 52, type := 4, pos := "ref.go:402", after := #[{ on := 7, ground := Go.Ground.data }, { on := 8, ground := Go.Ground.data }], guard := none }) rfl (by kernel_rfl) (by kernel_rfl) (by rfl) (fun K hK => ?_)
      go_simp; (try go_bits); refine hK _ _ ?_; clear hK K
      clear hS te
      cases E with
      | false =>
        have hne : e.1 ≠ fr := of_decide_eq_false HX.out.2.2.2.1
        have hup := upW_no (port := port) HX.out.1 hne
        have HY := Lib.hid (And.intro (HLo.out.1.drew) (show Rw 57 7 own1 d wr.drew (.slice (some ⟨g1, o1, none⟩) l.length cap1) l.length (macsC (upW l port fr (j + 1))) by rw [hup]; exact HLo.out.2))
        clear hup hne
        go_wp2
        exact ⟨⟨j + 1, by omega, by rw [HQ.out]; go_num, by rw [HX.out.2.2.1, Bool.or_false], HY.out⟩, meas_lt' _ _ hlt (by have := HL.out.2.2.2; omega)⟩
      | true =>
        have heq : e.1 = fr := of_decide_eq_true HX.out.2.2.2.1
        have hup := upW_yes (port := port) HX.out.1 heq
        have hput := (show Rw 57 7 own1 d wr.drew (.slice (some ⟨g1, o1, none⟩) l.length cap1) l.length (macsC (upW l port fr j)) from HLo.out.2).put (j * 7 + 6) (by rw [macsC_len _ (upW_six HL.out.2.1 port fr j), upW_len]; omega) (.int .i64 (port : Int))
        rw [← macsC_set (upW_six HL.out.2.1 port fr j) HX.out.2.1, ← hup, ← Nat.add_assoc] at hput
        have hst : Step (· = d) own1 w6 own1 (wr.drew.setCell ⟨g1, o1 + j * 7 + 6, none⟩ (.int .i64 (port : Int))) := HLo.out.1.drew.trans ⟨(Upd.refl (fun b => own1 b = d) _).setCell (p := ⟨g1, o1 + j * 7 + 6, none⟩) (.inl ho1) _, fun _ _ => rfl⟩
        have HY := Lib.hid (And.intro hst hput)
        clear heq hup hput hst
        go_wp2
        exact ⟨⟨j + 1, by omega, by rw [HQ.out]; go_num, by rw [HX.out.2.2.1, Bool.or_true], HY.out⟩, meas_lt' _ _ hlt (by have := HL.out.2.2.2; omega)⟩
    · obtain rfl : j = l.length := by omega
      rw [upW_all] at HLo
      rw [List.take_length]
      obtain ⟨hS, hRw⟩ := HLo.out
      have e7 : wr.cell? ⟨p7, 0, none⟩ = some (.int .u8 f0) := by
        rw [hb7.cell]
        have := HF.out.2
        rw [List.head?_eq_getElem?] at this
        simp [u8L, this]
      have hb8 := hS.blk H6.out.2.2.2.2.1 H6.out.2.2.2.2.2 HC.out.2.2.1
      have hop := hS.blk H6.out.2.1.1 H6.out.2.1.2 HC.out.1
      have hlp := hop.1.lt
      have htm : Int.tmod f0 2 = f0 % 2 := by have := HF.out.1; exact Int.tmod_eq_emod_of_nonneg this.1
      have HS := Lib.hid (And.intro ((H6.out.1.mono (C' := fun x => x = c ∨ x = d) (fun _ h => h.elim)).trans (hS.mono (fun _ h => .inr h))) (And.intro hop (And.intro hRw (And.intro hb8 hb7))))
      have hji : ¬ (l.length : Int) < (l.length : Int) := by omega
      have HO7 := Lib.hid H6.out.2.2.2.1.2
      clear hS hRw hb8 hop hb7 hbp HLo H6 hlt hj
      obtain ⟨B, hB⟩ : ∃ B : Bool, decide (anyW l fr = false ∧ f0 % 2 = 0 ∧ l.length < 32) = B := ⟨_, rfl⟩
      obtain ⟨Kn, hKn⟩ : ∃ K, anyW l fr = K := ⟨_, rfl⟩
      rw [hKn]
      have HB := Lib.hid (And.intro hB hKn)
      clear hB hKn
      go_upto_region 12 with fail
      go_cut [77] (fun s77 wx => s77 = .bool B ∧ wx = wr)
      case first =>
        cases Kn
        · by_cases he : f0 % 2 = 0
          · by_cases hl : l.length < 32
            · have hl' : (l.length : Int) < 32 := by omega
              go_wp2
              go_meet
              exact ⟨by rw [← HB.out.1, decide_eq_true ⟨HB.out.2, he, hl⟩], rfl⟩
            · have hl' : ¬ (l.length : Int) < 32 := by omega
              go_wp2
              go_meet
              exact ⟨by rw [← HB.out.1, decide_eq_false (fun h => hl h.2.2)], rfl⟩
          · go_wp2
            go_meet
            exact ⟨by rw [← HB.out.1, decide_eq_false (fun h => he h.2.1)], rfl⟩
        · go_wp2
          go_meet
          exact ⟨by rw [← HB.out.1, decide_eq_false (fun h => by rw [HB.out.2] at h; cases h.1)], rfl⟩
      case rest =>
        obtain ⟨rfl, rfl⟩ := hcut
        clear htm e7
        go_upto_if 77 with fail
        go_cut [] (fun wx => Hid (∃ own', Step (fun x => x = c ∨ x = d) own w own' wx ∧ WAt own' c d wx p ports (learnW l port fr f0) ∧ Blk wx p8 52 (u8L tk).toArray ∧ own' p8 = dr))
        case first =>
          cases B with
          | false =>
            have hno := learnW_no (port := port) (of_decide_eq_false HB.out.1)
            have HE := Lib.hid (And.intro HS.out.1 (And.intro (show WAt own1 c d wc p ports (learnW l port fr f0) from ⟨_, HS.out.2.1.1, HS.out.2.1.2, by rw [hno, List.length_map]; exact HS.out.2.2.1⟩) HS.out.2.2.2.1))
            clear hno
            go_wp2
            go_meet
            exact ⟨_, HE.out⟩
          | true =>
            have hc := of_decide_eq_true HB.out.1
            have hyes := learnW_yes (port := port) hc
            obtain ⟨im, zm, hi, hz, hs, hby, hzs⟩ := mac_parts
            have HI := Lib.hid (And.intro hi (And.intro hz (And.intro hs (And.intro hby hzs))))
            have hrw := HS.out.2.2.1
            rw [map_none hc.1] at hrw
            have HRW := Lib.hid (And.intro hrw (And.intro hyes hc.2.2))
            have hS0 : wc.drew.cell? ⟨p, 1, none⟩ = some (.slice A1 l.length cap1) ∧ wc.drew.rangeAt p7 0 (u8L fr) := ⟨c1, blk_range HS.out.2.2.2.2⟩
            have HS0 := Lib.hid hS0
            clear hc hyes hi hz hs hby hzs hrw hS0
            go_wp2_with fail
            refine wpE_region (S := fun (W' : World) => W'.cell? ⟨p, 1, none⟩ = some (.slice A1 l.length cap1) ∧ W'.rangeAt p7 0 (u8L fr)) (s := 12) (by kernel_rfl) ?_
            have hS : (fun (W' : World) => W'.cell? ⟨p, 1, none⟩ = some (.slice A1 l.length cap1) ∧ W'.rangeAt p7 0 (u8L fr)) _ := HS0.out
            refine wpE_take (i := 0) (oi := { dst := some 78, op := Go.Op.move (Go.Operand.tmp 0), type := 28, pos := "ref.go:408", after := #[], guard := none }) (v := ?_) rfl (by kernel_rfl) (fun _ _ _ h => h) (Or.inl ⟨by rfl, fun W hW => ?_⟩) hS ?_
            rotate_left
            · obtain ⟨hw1, hw2⟩ := hW; go_simp; (try go_bits); (try rw [if_pos (by omega)]); (try with_reducible rfl)
            (try simp only [Act.put, List.setIfInBounds_toArray, List.set_cons_succ, List.set_cons_zero])
            refine wpE_take (i := 1) (oi := { dst := some 79, op := Go.Op.move (Go.Operand.tmp 0), type := 28, pos := "ref.go:408", after := #[], guard := none }) (v := ?_) rfl (by kernel_rfl) (fun _ _ _ h => h) (Or.inl ⟨by rfl, fun W hW => ?_⟩) hS ?_
            rotate_left
            · obtain ⟨hw1, hw2⟩ := hW; go_simp; (try go_bits); (try rw [if_pos (by omega)]); (try with_reducible rfl)
            (try simp only [Act.put, List.setIfInBounds_toArray, List.set_cons_succ, List.set_cons_zero])
            refine wpE_take (i := 2) (oi := { dst := some 80, op := Go.Op.nilCheck (Go.Operand.tmp 79), type := 0, pos := "ref.go:408", after := #[{ on := 1, ground := Go.Ground.data }], guard := none }) (v := ?_) rfl (by kernel_rfl) (fun _ _ _ h => h) (Or.inl ⟨by rfl, fun W hW => ?_⟩) hS ?_
            rotate_left
            · obtain ⟨hw1, hw2⟩ := hW; go_simp; (try go_bits); (try rw [if_pos (by omega)]); (try with_reducible rfl)
            (try simp only [Act.put, List.setIfInBounds_toArray, List.set_cons_succ, List.set_cons_zero])
            refine wpE_take (i := 3) (oi := { dst := some 81, op := Go.Op.fieldAddr 39 (Go.Operand.tmp 80) 1, type := 0, pos := "ref.go:408", after := #[{ on := 2, ground := Go.Ground.data }], guard := none }) (v := ?_) rfl (by kernel_rfl) (fun _ _ _ h => h) (Or.inl ⟨by rfl, fun W hW => ?_⟩) hS ?_
            rotate_left
            · obtain ⟨hw1, hw2⟩ := hW; go_simp; (try go_bits); (try rw [if_pos (by omega)]); (try with_reducible rfl)
            (try simp only [Act.put, List.setIfInBounds_toArray, List.set_cons_succ, List.set_cons_zero])
            refine wpE_take (i := 4) (oi := { dst := some 82, op := Go.Op.load 37 (Go.Operand.tmp 81), type := 37, pos := "ref.go:408", after := #[{ on := 3, ground := Go.Ground.data }], guard := none }) (v := ?_) rfl (by kernel_rfl) (fun _ _ _ h => h) (Or.inl ⟨by rfl, fun W hW => ?_⟩) hS ?_
            rotate_left
            · obtain ⟨hw1, hw2⟩ := hW; go_simp; (try go_bits); (try rw [if_pos (by omega)]); (try with_reducible rfl)
            (try simp only [Act.put, List.setIfInBounds_toArray, List.set_cons_succ, List.set_cons_zero])
            refine wpE_take (i := 5) (oi := { dst := some 83, op := Go.Op.load 52 (Go.Operand.tmp 7), type := 52, pos := "ref.go:408", after := #[], guard := none }) (v := .agg (u8L fr).toArray) rfl (by kernel_rfl) (fun _ _ _ h => h) (Or.inl ⟨by rfl, fun W hW => ?_⟩) hS ?_
            · obtain ⟨hw1, hw2⟩ := hW; exact ex_loadM (.tmp 7) rfl p7 0 fr HL.out.1.2 rfl hw2
            (try simp only [Act.put, List.setIfInBounds_toArray, List.set_cons_succ, List.set_cons_zero])
            refine wpE_take (i := 6) (oi := { dst := some 84, op := Go.Op.move (Go.Operand.tmp 1), type := 3, pos := "ref.go:408", after := #[], guard := none }) (v := ?_) rfl (by kernel_rfl) (fun _ _ _ h => h) (Or.inl ⟨by rfl, fun W hW => ?_⟩) hS ?_
            rotate_left
            · obtain ⟨hw1, hw2⟩ := hW; go_simp; (try go_bits); (try rw [if_pos (by omega)]); (try with_reducible rfl)
            (try simp only [Act.put, List.setIfInBounds_toArray, List.set_cons_succ, List.set_cons_zero])
            refine wpE_take (i := 7) (oi := { dst := some 85, op := Go.Op.build 57 #[(0, Go.Operand.tmp 83), (1, Go.Operand.tmp 84)], type := 57, pos := "ref.go:408", after := #[{ on := 5, ground := Go.Ground.data }, { on := 6, ground := Go.Ground.data }], guard := none }) (v := .agg (macC (fr, port)).toArray) rfl (by kernel_rfl) (fun _ _ _ h => h) (Or.inl ⟨by rfl, fun W hW => ?_⟩) hS ?_
            · obtain ⟨hw1, hw2⟩ := hW; exact exec_build2 rfl _ _ rfl rfl (mac_build fr HL.out.1.2 port _)
            (try simp only [Act.put, List.setIfInBounds_toArray, List.set_cons_succ, List.set_cons_zero])
            refine wpE_only (i := 8) (oi := { dst := some 86, op := Go.Op.buildSlice 37 1 #[(0, Go.Operand.tmp 85)], type := 37, pos := "ref.go:408", after := #[{ on := 7, ground := Go.Ground.data }], guard := none }) rfl (by kernel_rfl) (by rfl) (fun K hK => ?_)
            refine wp_run (exec_buildSlice1 rfl (.agg (macC (fr, port)).toArray) rfl (mac_slice (fr, port) HL.out.1.2 _)) ?_
            have hsta := step_allocS own1 wc.drew (.cells (macC (fr, port)).toArray 57)
            have hS : (wc.drew.alloc (.cells (macC (fr, port)).toArray 57)).cell? ⟨p, 1, none⟩ = some (.slice A1 l.length cap1) ∧ (wc.drew.alloc (.cells (macC (fr, port)).toArray 57)).rangeAt p7 0 (u8L fr) :=
            ⟨(hsta.upd.cell (p := ⟨p, 1, none⟩) hlp (fun h => h)).trans HS0.out.1, rangeAt_upd HS0.out.2 hsta.upd HS.out.2.2.2.2.lt (fun h => h)⟩
            have HSA := Lib.hid (And.intro hsta hS)
            clear hsta
            refine hK _ _ hS ?_; clear hK K hS
            have hS := HSA.out.2
            (try simp only [Act.put, List.setIfInBounds_toArray, List.set_cons_succ, List.set_cons_zero])
            refine wpE_only (i := 9) (oi := { dst := some 87, op := Go.Op.call { callee := Go.Callee.builtin Go.Builtin.append, args := #[Go.Operand.tmp 82, Go.Operand.tmp 86], argTypes := #[37, 37] }, type := 37, pos := "ref.go:408", after := #[{ on := 4, ground := Go.Ground.data }, { on := 8, ground := Go.Ground.data }], guard := none }) rfl (by kernel_rfl) (by rfl) (fun K hK => ?_)
            refine wp_append_rw (.tmp 82) (.tmp 86) _ rfl 57 im zm 7 16 Try.underlying37 HI.out.1 HI.out.2.1 HI.out.2.2.1 HI.out.2.2.2.1 HI.out.2.2.2.2 (by omega) (own := own1) (d := d) (.slice A1 l.length cap1) _ _ rfl ((show Rw 57 7 own1 d wc.drew _ _ _ from HRW.out.1).step HSA.out.1 (fun h => h)) (wc.drew.heap.size + 1) (some ⟨wc.drew.heap.size, 0, none⟩) 1 1 (macC (fr, port)) rfl ⟨by rw [macC_len _ HL.out.1.2], fun _ => ⟨_, rfl, Nat.lt_succ_self _, cells_newL _ _ _⟩⟩ (macC_one _) (by unfold maxLen; have := HRW.out.2.2; omega) (by have := HRW.out.2.2; omega) ?_
            intro v3 w3 hst3 hrow3
            obtain ⟨A3, cap3, hv3, _⟩ := hrow3.form
            subst hv3
            have hbp3 := hst3.blk (HS.out.2.1.1.upd (Upd.refl (fun _ => False) wc).drew (fun h => h) |>.upd HSA.out.1.upd (fun h => h)) ((HSA.out.1.old p hlp).trans HS.out.2.1.2) HC.out.1
            have hb73 := hst3.blk (HS.out.2.2.2.2.upd (Upd.refl (fun _ => False) wc).drew (fun h => h) |>.upd HSA.out.1.upd (fun h => h)) (show own1 p7 = dr from HO7.out) HC.out.2.2.1
            have hb83 := hst3.blk (HS.out.2.2.2.1.1.upd (Upd.refl (fun _ => False) wc).drew (fun h => h) |>.upd HSA.out.1.upd (fun h => h)) HS.out.2.2.2.1.2 HC.out.2.2.1
            have hS : w3.cell? ⟨p, 1, none⟩ = some (.slice A1 l.length cap1) ∧ w3.rangeAt p7 0 (u8L fr) := ⟨hbp3.1.cell 1, blk_range hb73.1⟩
            have hzq := hbp3.1.frozen 1
            have H3 := Lib.hid (And.intro hst3 (And.intro hrow3 (And.intro hbp3 hb83)))
            clear hst3 hrow3 hbp3 hb73 hb83
            refine hK _ _ hS ?_; clear hK K
            (try simp only [Act.put, List.setIfInBounds_toArray, List.set_cons_succ, List.set_cons_zero])
            refine wpE_take (i := 10) (oi := { dst := some 88, op := Go.Op.nilCheck (Go.Operand.tmp 78), type := 0, pos := "ref.go:408", after := #[{ on := 0, ground := Go.Ground.data }, { on := 0, ground := Go.Ground.phase }, { on := 1, ground := Go.Ground.phase }, { on := 2, ground := Go.Ground.phase }, { on := 3, ground := Go.Ground.phase }, { on := 4, ground := Go.Ground.phase }, { on := 5, ground := Go.Ground.phase }, { on := 6, ground := Go.Ground.phase }, { on := 7, ground := Go.Ground.phase }, { on := 8, ground := Go.Ground.phase }, { on := 9, ground := Go.Ground.phase }], guard := none }) (v := ?_) rfl (by kernel_rfl) (fun _ _ _ h => h) (Or.inl ⟨by rfl, fun W hW => ?_⟩) hS ?_
            rotate_left
            · obtain ⟨hw1, hw2⟩ := hW; go_simp; (try go_bits); (try rw [if_pos (by omega)]); (try with_reducible rfl)
            (try simp only [Act.put, List.setIfInBounds_toArray, List.set_cons_succ, List.set_cons_zero])
            refine wpE_take (i := 11) (oi := { dst := some 89, op := Go.Op.fieldAddr 39 (Go.Operand.tmp 88) 1, type := 0, pos := "ref.go:408", after := #[{ on := 10, ground := Go.Ground.data }, { on := 0, ground := Go.Ground.phase }, { on := 1, ground := Go.Ground.phase }, { on := 2, ground := Go.Ground.phase }, { on := 3, ground := Go.Ground.phase }, { on := 4, ground := Go.Ground.phase }, { on := 5, ground := Go.Ground.phase }, { on := 6, ground := Go.Ground.phase }, { on := 7, ground := Go.Ground.phase }, { on := 8, ground := Go.Ground.phase }, { on := 9, ground := Go.Ground.phase }], guard := none }) (v := ?_) rfl (by kernel_rfl) (fun _ _ _ h => h) (Or.inl ⟨by rfl, fun W hW => ?_⟩) hS ?_
            rotate_left
            · obtain ⟨hw1, hw2⟩ := hW; go_simp; (try go_bits); (try rw [if_pos (by omega)]); (try with_reducible rfl)
            (try simp only [Act.put, List.setIfInBounds_toArray, List.set_cons_succ, List.set_cons_zero])
            refine wpE_last (oi := { dst := none, op := Go.Op.store 37 (Go.Operand.tmp 89) (Go.Operand.tmp 87), type := 0, pos := "ref.go:408", after := #[{ on := 11, ground := Go.Ground.data }, { on := 9, ground := Go.Ground.data }, { on := 9, ground := Go.Ground.chain }, { on := 0, ground := Go.Ground.phase }, { on := 1, ground := Go.Ground.phase }, { on := 2, ground := Go.Ground.phase }, { on := 3, ground := Go.Ground.phase }, { on := 4, ground := Go.Ground.phase }, { on := 5, ground := Go.Ground.phase }, { on := 6, ground := Go.Ground.phase }, { on := 7, ground := Go.Ground.phase }, { on := 8, ground := Go.Ground.phase }, { on := 9, ground := Go.Ground.phase }], guard := none }) rfl (by kernel_rfl) (by kernel_rfl) (by rfl) (fun K hK => ?_)
            go_simp; (try go_bits); refine hK _ _ ?_; clear hK K
            clear hS
            have h2 := (HS.out.1.drew).trans (HSA.out.1.mono (C' := fun x => x = c ∨ x = d) (fun _ h => h.elim))
            have h3 := h2.trans (H3.out.1.mono (C' := fun x => x = c ∨ x = d) (fun _ h => .inr h))
            obtain ⟨own2, ho2⟩ : ∃ o, ext own1 (wc.drew.alloc (.cells (macC (fr, port)).toArray 57)) d = o := ⟨_, rfl⟩
            obtain ⟨hst3, hrow3, hbp3, hb83⟩ := H3.out
            rw [ho2] at h3 hst3 hrow3 hbp3 hb83
            have hsc : Step (· = c) own2 w3 own2 (w3.setCell ⟨p, 1, none⟩ (.slice A3 (l.length + 1) cap3)) := ⟨(Upd.refl (fun b => own2 b = c) _).setCell (p := ⟨p, 1, none⟩) (.inl hbp3.2) _, fun _ _ => rfl⟩
            have hcp := hsc.blk hb83.1 hb83.2 HC.out.2.1
            have HE := Lib.hid (And.intro (h3.trans (hsc.mono (C' := fun x => x = c ∨ x = d) (fun _ h => .inl h))) (And.intro (show WAt own2 c d _ p ports (learnW l port fr f0) from ⟨_, (hbp3.1.set_ 1 (.slice A3 (l.length + 1) cap3)).to rfl, hbp3.2, by rw [HRW.out.2.1, List.length_append, macsC_snoc]; exact hrow3.step hsc (fun h => HC.out.1 h.symm)⟩) hcp))
            clear h2 h3 ho2 hst3 hrow3 hbp3 hb83 hsc hcp H3 HSA hzq
            go_wp2
            go_meet
            exact ⟨_, HE.out⟩
        case rest =>
          obtain ⟨own2, hSt, ⟨v2, hbp, hop, hrw⟩, hb8, ho8⟩ := hcut.out
          obtain ⟨hl6, hlp2, hl32⟩ := learnW_ok HL.out.2.1 HL.out.2.2.1 HL.out.2.2.2 port hpt fr HL.out.1.2 f0
          clear hcut c0 c1 HS HB HO7 hji HF
          generalize hl2e : learnW l port fr f0 = l2 at *
          have HLe := Lib.hid hl2e
          clear hl2e
          obtain ⟨A2, cap2, rfl, _, hform⟩ := hrw.form
          have c1 : wc.cell? ⟨p, 1, none⟩ = some (.slice A2 l2.length cap2) := hbp.cell 1
          have c0 : wc.cell? ⟨p, 0, none⟩ = some (.int .i64 (ports : Int)) := hbp.cell 0
          have H2 := Lib.hid (And.intro hSt (And.intro (And.intro hbp hop) (And.intro hrw (And.intro hb8 ho8))))
          have HL2 := Lib.hid (And.intro hl6 (And.intro hlp2 hl32))
          have HFm := Lib.hid hform
          clear hSt hbp hop hrw hb8 ho8 hl6 hlp2 hl32 hform
          go_wp2_with fail
          go_loopw [11] (fun i wr => ∃ (j : Nat), j ≤ l2.length ∧ i = .int .i64 (j : Int) ∧ Hid (anyW (l2.take j) tk = false) ∧ ∃ dn, wr = wc.drewN dn) (fun i _ => l2.length - (intOf i).toNat)
          case atStart => exact ⟨0, by omega, rfl, rfl, 0, rfl⟩
          case round =>
            obtain ⟨j, hj, rfl, hany, dn, rfl⟩ := hrel
            by_cases hlt : j < l2.length
            · obtain ⟨e, he⟩ : ∃ e, l2[j]? = some e := ⟨_, List.getElem?_eq_getElem hlt⟩
              have he6 : e.1.length = 6 := HL2.out.1 e (List.mem_of_getElem? he)
              obtain ⟨g1, o1, rfl, ho1, _, _, hcs⟩ := HFm.out (by omega)
              have hR9 : wc.rangeAt g1 (o1 + j * 7) (u8L e.1) := fun q u hu => by
                rw [Nat.add_assoc]; exact hcs _ _ (macsC_at _ HL2.out.1 j e he q u (macC_addr e he6 q u hu))
              have x6 : wc.cell? ⟨g1, o1 + j * 7 + 6, none⟩ = some (.int .i64 (e.2 : Int)) := by
                rw [Nat.add_assoc]; exact hcs _ _ (macsC_at _ HL2.out.1 j e he 6 _ (macC_last e he6))
              have hji : (j : Int) < (l2.length : Int) := by omega
              obtain ⟨E, hE⟩ : ∃ E : Bool, decide (e.1 = tk) = E := ⟨_, rfl⟩
              have te : ∀ w : World, (Op.equalIn 10000 52 (.agg (u8L e.1).toArray) (.agg (u8L tk).toArray)).run Try.prog w = .ok E w := fun w => by have := mac_eq _ _ he6 HL.out.1.1 w; rw [hE] at this; exact this
              have hsucc := anyW_succ (fr := tk) he
              rw [hE, hany.out, Bool.false_or] at hsucc
              have HX := Lib.hid (And.intro he (And.intro hsucc (And.intro hE (And.intro hR9 (And.intro (blk_range H2.out.2.2.2.1) he6)))))
              have HQ := Lib.hid (IntWalk.wrap64_in ((j : Int) + 1) (by have := HL2.out.2.2; omega))
              clear hcs hR9 he6 he hsucc hE HFm
              go_wp2_with fail
              refine wpE_region (S := fun (W' : World) => W' = (wc.drewN dn).drew) (s := 9) (by kernel_rfl) ?_
              have hS : (fun (W' : World) => W' = (wc.drewN dn).drew) _ := rfl
              refine wpE_take (i := 0) (oi := { dst := some 99, op := Go.Op.move (Go.Operand.tmp 0), type := 28, pos := "ref.go:411", after := #[], guard := none }) (v := ?_) rfl (by kernel_rfl) (fun _ _ _ h => h) (Or.inl ⟨by rfl, fun W hW => ?_⟩) hS ?_
              rotate_left
              · (obtain rfl : W = (wc.drewN dn).drew := hW); go_simp; (try go_bits); (try rw [if_pos (by omega)]); (try with_reducible rfl)
              (try simp only [Act.put, List.setIfInBounds_toArray, List.set_cons_succ, List.set_cons_zero])
              refine wpE_take (i := 1) (oi := { dst := some 100, op := Go.Op.nilCheck (Go.Operand.tmp 99), type := 0, pos := "ref.go:411", after := #[{ on := 0, ground := Go.Ground.data }], guard := none }) (v := ?_) rfl (by kernel_rfl) (fun _ _ _ h => h) (Or.inl ⟨by rfl, fun W hW => ?_⟩) hS ?_
              rotate_left
              · (obtain rfl : W = (wc.drewN dn).drew := hW); go_simp; (try go_bits); (try rw [if_pos (by omega)]); (try with_reducible rfl)
              (try simp only [Act.put, List.setIfInBounds_toArray, List.set_cons_succ, List.set_cons_zero])
              refine wpE_take (i := 2) (oi := { dst := some 101, op := Go.Op.fieldAddr 39 (Go.Operand.tmp 100) 1, type := 0, pos := "ref.go:411", after := #[{ on := 1, ground := Go.Ground.data }], guard := none }) (v := ?_) rfl (by kernel_rfl) (fun _ _ _ h => h) (Or.inl ⟨by rfl, fun W hW => ?_⟩) hS ?_
              rotate_left
              · (obtain rfl : W = (wc.drewN dn).drew := hW); go_simp; (try go_bits); (try rw [if_pos (by omega)]); (try with_reducible rfl)
              (try simp only [Act.put, List.setIfInBounds_toArray, List.set_cons_succ, List.set_cons_zero])
              refine wpE_take (i := 3) (oi := { dst := some 102, op := Go.Op.load 37 (Go.Operand.tmp 101), type := 37, pos := "ref.go:411", after := #[{ on := 2, ground := Go.Ground.data }], guard := none }) (v := ?_) rfl (by kernel_rfl) (fun _ _ _ h => h) (Or.inl ⟨by rfl, fun W hW => ?_⟩) hS ?_
              rotate_left
              · (obtain rfl : W = (wc.drewN dn).drew := hW); go_simp; (try go_bits); (try rw [if_pos (by omega)]); (try with_reducible rfl)
              (try simp only [Act.put, List.setIfInBounds_toArray, List.set_cons_succ, List.set_cons_zero])
              refine wpE_take (i := 4) (oi := { dst := some 103, op := Go.Op.move (Go.Operand.tmp 11), type := 3, pos := "ref.go:411", after := #[], guard := none }) (v := ?_) rfl (by kernel_rfl) (fun _ _ _ h => h) (Or.inl ⟨by rfl, fun W hW => ?_⟩) hS ?_
              rotate_left
              · (obtain rfl : W = (wc.drewN dn).drew := hW); go_simp; (try go_bits); (try rw [if_pos (by omega)]); (try with_reducible rfl)
              (try simp only [Act.put, List.setIfInBounds_toArray, List.set_cons_succ, List.set_cons_zero])
              refine wpE_take (i := 5) (oi := { dst := some 104, op := Go.Op.indexAddr 37 (Go.Operand.tmp 102) (Go.Operand.tmp 103), type := 0, pos := "ref.go:411", after := #[{ on := 3, ground := Go.Ground.data }, { on := 4, ground := Go.Ground.data }], guard := none }) (v := ?_) rfl (by kernel_rfl) (fun _ _ _ h => h) (Or.inl ⟨by rfl, fun W hW => ?_⟩) hS ?_
              rotate_left
              · (obtain rfl : W = (wc.drewN dn).drew := hW); go_simp; (try go_bits); (try rw [if_pos (by omega)]); (try with_reducible rfl)
              (try simp only [Act.put, List.setIfInBounds_toArray, List.set_cons_succ, List.set_cons_zero])
              refine wpE_take (i := 6) (oi := { dst := some 105, op := Go.Op.fieldAddr 57 (Go.Operand.tmp 104) 0, type := 0, pos := "ref.go:411", after := #[{ on := 5, ground := Go.Ground.data }], guard := none }) (v := ?_) rfl (by kernel_rfl) (fun _ _ _ h => h) (Or.inl ⟨by rfl, fun W hW => ?_⟩) hS ?_
              rotate_left
              · (obtain rfl : W = (wc.drewN dn).drew := hW); go_simp; (try go_bits); (try rw [if_pos (by omega)]); (try with_reducible rfl)
              (try simp only [Act.put, List.setIfInBounds_toArray, List.set_cons_succ, List.set_cons_zero])
              refine wpE_take (i := 7) (oi := { dst := some 106, op := Go.Op.load 52 (Go.Operand.tmp 105), type := 52, pos := "ref.go:411", after := #[{ on := 6, ground := Go.Ground.data }], guard := none }) (v := .agg (u8L e.1).toArray) rfl (by kernel_rfl) (fun _ _ _ h => h) (Or.inl ⟨by rfl, fun W hW => ?_⟩) hS ?_
              · (obtain rfl : W = (wc.drewN dn).drew := hW); exact ex_loadM (.tmp 105) rfl g1 (o1 + j * 7) e.1 HX.out.2.2.2.2.2 rfl (show World.rangeAt (wc.drewN dn).drew _ _ _ from HX.out.2.2.2.1)
              (try simp only [Act.put, List.setIfInBounds_toArray, List.set_cons_succ, List.set_cons_zero])
              refine wpE_take (i := 8) (oi := { dst := some 107, op := Go.Op.load 52 (Go.Operand.tmp 8), type := 52, pos := "ref.go:411", after := #[], guard := none }) (v := .agg (u8L tk).toArray) rfl (by kernel_rfl) (fun _ _ _ h => h) (Or.inl ⟨by rfl, fun W hW => ?_⟩) hS ?_
              · (obtain rfl : W = (wc.drewN dn).drew := hW); exact ex_loadM (.tmp 8) rfl p8 0 tk HL.out.1.1 rfl (show World.rangeAt (wc.drewN dn).drew _ _ _ from HX.out.2.2.2.2.1)
              (try simp only [Act.put, List.setIfInBounds_toArray, List.set_cons_succ, List.set_cons_zero])
              refine wpE_last (oi := { dst := some 108, op := Go.Op.binOp Go.BinOp.eql 52 (Go.Operand.tmp 106) (Go.Operand.tmp 107) 52, type := 4, pos := "ref.go:411", after := #[{ on := 7, ground := Go.Ground.data }, { on := 8, ground := Go.Ground.data }], guard := none }) rfl (by kernel_rfl) (by kernel_rfl) (by rfl) (fun K hK => ?_)
              go_simp; (try go_bits); refine hK _ _ ?_; clear hK K
              clear hS te
              cases E with
              | false =>
                go_wp2
                exact ⟨⟨j + 1, by omega, by rw [HQ.out]; go_num, HX.out.2.1, _, rfl⟩, meas_lt' _ _ hlt (by have := HL2.out.2.2; omega)⟩
              | true =>
                have hout := out_find (port := port) HL2.out.2.1 HC.out.2.2.2 tk HX.out.1 (of_decide_eq_true HX.out.2.2.1) hany.out
                by_cases hep : e.2 = port
                · rw [if_pos hep] at hout
                  have hpe : ((e.2 : Int) == (port : Int)) = true := by simp [hep]
                  have HE := Lib.hid (And.intro hout (And.intro H2.out.1 (show WAt own2 c d wc p ports l2 from ⟨_, H2.out.2.1.1, H2.out.2.1.2, H2.out.2.2.1⟩)))
                  clear hout hep
                  go_wp2
                  go_ret
                  rw [HLe.out, HE.out.1]
                  exact ⟨_, own2, rfl, HE.out.2.1.drewN _, HE.out.2.2.step ((Step.refl (fun _ => False) own2 wc).drewN _) (fun h => h) (fun h => h), Rw.nil _ _ _ _ _⟩
                · rw [if_neg hep] at hout
                  have hpe : ((e.2 : Int) == (port : Int)) = false := by simp; omega
                  have HE := Lib.hid (And.intro hout (And.intro H2.out.1 (show WAt own2 c d wc p ports l2 from ⟨_, H2.out.2.1.1, H2.out.2.1.2, H2.out.2.2.1⟩)))
                  clear hout hep
                  go_wp2
                  go_ret
                  rw [HLe.out, HE.out.1]
                  have hst : Step (fun _ => False) own2 wc (ext own2 (wc.drewN (dn + 1)) dr) ((wc.drewN (dn + 1)).alloc (.cells #[.int .i64 (e.2 : Int)] 3)) := ((Step.refl (fun _ => False) own2 wc).drewN (dn + 1)).trans ⟨(Upd.refl _ _).alloc _, fun b hb => ext_old _ _ _ hb⟩
                  exact ⟨_, _, rfl, HE.out.2.1.trans (hst.mono (fun _ h => h.elim)), HE.out.2.2.step hst (fun h => h) (fun h => h), Rw.one _ _ _ _ _⟩
            · obtain rfl : j = l2.length := by omega
              have hany' := hany.out
              rw [List.take_length] at hany'
              have hRf := find_none hany'
              have HE := Lib.hid (And.intro hRf (And.intro (H2.out.1.drewN dn) ((show WAt own2 c d wc p ports l2 from ⟨_, H2.out.2.1.1, H2.out.2.1.2, H2.out.2.2.1⟩).step ((Step.refl (fun _ => False) own2 wc).drewN dn) (fun h => h) (fun h => h))))
              have c0' : (wc.drewN dn).cell? ⟨p, 0, none⟩ = some (.int .i64 (ports : Int)) := c0
              have c1' : (wc.drewN dn).cell? ⟨p, 1, none⟩ = some (.slice A2 l2.length cap2) := c1
              have hlp : p < (wc.drewN dn).heap.size := H2.out.2.1.1.lt
              have hji : ¬ (l2.length : Int) < (l2.length : Int) := by omega
              clear hany hany' hRf c0 c1 HFm H2 hlt hj
              generalize wc.drewN dn = wx at *
              obtain ⟨i, z, hi, hz, hs, hby, hzs⟩ := int_parts
              have HI := Lib.hid (And.intro hi (And.intro hz (And.intro hs (And.intro hby hzs))))
              clear hi hz hs hby hzs
              go_wp2_with fail
              go_loopw [12, 13] (fun lv i wr => ∃ (k : Nat), k ≤ ports ∧ i = .int .i64 (k : Int) ∧ Hid (∃ own', Step (· = 0) (up1 own2 wx) wx own' wr ∧ Rw 3 1 own' 0 wr lv (outS k port none).length (psC (outS k port none)))) (fun _ i _ => ports - (intOf i).toNat)
              case atStart => exact ⟨0, by omega, rfl, _, Step.refl _ _ _, Rw.nil _ _ _ _ _⟩
              case round =>
                obtain ⟨k, hk, rfl, HLo⟩ := hrel
                obtain ⟨own3, hS3, hO3⟩ := HLo.out
                have hU3 := up1_upd hS3
                have cr : wr.cell? ⟨p, 0, none⟩ = some (.int .i64 (ports : Int)) := (hU3.cell (p := ⟨p, 0, none⟩) hlp (fun h => h)).trans c0'
                by_cases hlt : k < ports
                · have hsn := outS_snoc k port none
                  have hlen := outS_len k port none
                  have H3 := Lib.hid (And.intro hS3 hO3)
                  obtain ⟨A5, cap5, rfl, hcap5, hform5⟩ := hO3.form
                  clear hcap5 hform5
                  have hq1 : ((k : Int) < (ports : Int)) := by omega
                  have HLn := Lib.hid (show (outS k port none).length ≤ 8 by omega)
                  have HQ := Lib.hid (IntWalk.wrap64_in ((k : Int) + 1) (by omega))
                  have HK := Lib.hid (And.intro hk (And.intro hlt hp))
                  clear hS3 hO3 hU3 HLo hlen hcm hcap hn HE c0' hlp
                  by_cases hkp : k = port
                  · have HD := Lib.hid (show outS (k + 1) port none = outS k port none by rw [hsn, if_neg (by simp [hkp]), List.append_nil])
                    have hkq : ((k : Int) != (port : Int)) = false := by simp; omega
                    clear hsn hkp
                    go_wp2
                    exact ⟨⟨k + 1, by omega, by go_num, _, H3.out.1, by rw [HD.out]; exact H3.out.2⟩, meas_lt0 ports k HK.out.2.1⟩
                  · have HD := Lib.hid (show outS (k + 1) port none = outS k port none ++ [k] by rw [hsn, if_pos (by simp [hkp])])
                    have hkq : ((k : Int) != (port : Int)) = true := by simp; omega
                    clear hsn hkp
                    go_wp2_with ((with_reducible show wpList _ _ _ ((⟨some 142, _, _, _, _, _⟩ : Oper) :: _) _ _); refine wpList_append_rw rfl (.tmp 139) (.tmp 141) _ rfl 3 i _ 1 8 Try.underlying22 HI.out.1 HI.out.2.1 HI.out.2.2.1 HI.out.2.2.2.1 HI.out.2.2.2.2 (by omega) (own := own3) (d := 0) (.slice A5 (outS k port none).length cap5) _ _ rfl (H3.out.2.step (step_allocS own3 wr _) (fun h => h)) (wr.heap.size + 1) (some ⟨wr.heap.size, 0, none⟩) 1 1 [.int .i64 (k : Int)] rfl ⟨rfl, fun _ => ⟨_, rfl, Nat.lt_succ_self _, cells_new1 _ _ _⟩⟩ (by simp [Value.oneCell']) (by unfold maxLen; have := HLn.out; omega) (by have := HLn.out; omega) ?_)
                    intro v2 w5 hst5 hrow5
                    have hst6 := H3.out.1.trans (((step_allocS own3 wr _).mono (C' := (· = 0)) (fun _ h => h.elim)).trans hst5)
                    rw [show psC (outS k port none) ++ [.int .i64 (k : Int)] = psC (outS (k + 1) port none) by rw [HD.out, psC, psC, List.map_append]; rfl, show (outS k port none).length + 1 = (outS (k + 1) port none).length by rw [HD.out, List.length_append]; rfl] at hrow5
                    have H6 := Lib.hid (And.intro hst6 hrow5)
                    clear hst5 hst6 hrow5 H3
                    go_wp2
                    exact ⟨⟨k + 1, by omega, by go_num, _, H6.out⟩, meas_lt0 ports k HK.out.2.1⟩
                · obtain rfl : k = ports := by omega
                  have hSt : Step (fun _ => False) own2 wx (ext own2 wx dr) wr := ⟨hU3, fun b hb => ext_old _ _ _ hb⟩
                  have hR := up1_row hS3 hO3 dr
                  rw [← HE.out.1] at hR
                  obtain ⟨A5, cap5, rfl, hcap5, hform5⟩ := hO3.form
                  have HEE := Lib.hid (And.intro (HE.out.2.1.trans (hSt.mono (C' := fun x => x = c ∨ x = d) (fun _ h => h.elim))) (And.intro (HE.out.2.2.step hSt (fun h => h) (fun h => h)) hR))
                  have hq1 : ¬ ((k : Int) < (k : Int)) := by omega
                  clear hS3 hO3 hU3 hSt hR HLo hcap5 hform5 HE
                  go_wp2
                  go_ret
                  rw [HLe.out]
                  exact ⟨_, rfl, _, HEE.out⟩
end Go.Proofs.Ytpknabblllighaa
