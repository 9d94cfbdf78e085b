import Derived.Test.YtonhlgfgbdiapaaGreatTlb3
/- The document's TLB (citadelref05.T): New, drop, Flush, FlushPage's part, Put. -/
namespace Go.Proofs.YtonhlgfgbdiapaaGreat
set_option linter.unusedVariables false
set_option linter.unusedSimpArgs false
open Go.RowKit
set_option maxRecDepth 100000

/-- the document's TLB at block p: its room, its entries l -/
def TrefAt (own : Nat → Nat) (c d : Nat) (w : World) (p : Nat) (room : Nat) (l : List Tr) : Prop :=
  (∃ v, Blk w p 82 #[.int .i64 (room : Int), v] ∧ own p = c ∧ Rw 153 4 own d w v l.length (trsC l)) ∧ 1 ≤ room ∧ room ≤ 64 ∧ l.length ≤ room
def dropT (l : List Tr) (v : Int) (one : Bool) (pg : Int) : List Tr := l.filter (fun t => t.v != v || one && t.p != pg)
theorem dropT_snoc (l : List Tr) (x : Tr) (v : Int) (one : Bool) (pg : Int) : dropT (l ++ [x]) v one pg = dropT l v one pg ++ (if (x.v != v || one && x.p != pg) = true then [x] else []) := by
  unfold dropT; rw [List.filter_append, List.filter_cons, List.filter_nil]
theorem dropT_all (l : List Tr) (v pg : Int) : dropT l v false pg = flushT l v := by
  unfold dropT flushT; congr 1; funext t; simp
theorem dropT_one (l : List Tr) (v pg : Int) : dropT l v true pg = flushP l v pg := by
  unfold dropT flushP; congr 1
section
variable {own own' : Nat → Nat} {c d p room : Nat} {w w' : World} {l : List Tr}
theorem TrefAt.step {C : Nat → Prop} (h : TrefAt own c d w p room l) (hS : Step C own w own' w') (hc : ¬ C c) (hd : ¬ C d) : TrefAt own' c d w' p room l := by
  obtain ⟨⟨v, hb, ho, hR⟩, hr⟩ := h
  obtain ⟨h1, h2⟩ := hS.blk hb ho hc
  exact ⟨⟨v, h1, h2, hR.step hS hd⟩, hr⟩
theorem TrefAt.far {C : Nat → Prop} (h : TrefAt own c d w p room l) (hS : Step C own w own' w') (hc : ¬ C c) : ∃ v, Blk w' p 82 #[.int .i64 (room : Int), v] ∧ w'.cell? ⟨p, 1, none⟩ = w.cell? ⟨p, 1, none⟩ := by
  obtain ⟨⟨v, hb, ho, _⟩, _⟩ := h
  exact ⟨v, (hS.blk hb ho hc).1, hS.upd.cell (p := ⟨p, 1, none⟩) hb.lt (by show ¬ C (own p); rw [ho]; exact hc)⟩
theorem TrefAt.put {w3 : World} {l3 : List Tr} {v3 : Value} {own3 : Nat → Nat} (h : TrefAt own c d w p room l) (hcd : c ≠ d) (hS : Step (· = d) own w own3 w3) (hR : Rw 153 4 own3 d w3 v3 l3.length (trsC l3)) (hl : l3.length ≤ room) :
    Step (fun x => x = c ∨ x = d) own w own3 (w3.setCell ⟨p, 1, none⟩ v3) ∧ TrefAt own3 c d (w3.setCell ⟨p, 1, none⟩ v3) p room l3 := by
  obtain ⟨⟨v, hb, ho, _⟩, h1, h2, h3⟩ := h
  obtain ⟨g1, g2⟩ := hS.blk hb ho (fun e => hcd e)
  have hS2 : Step (· = c) own3 w3 own3 (w3.setCell ⟨p, 1, none⟩ v3) := ⟨(Upd.refl _ _).setCell (.inl g2) _, fun _ _ => rfl⟩
  exact ⟨(hS.mono (fun _ h => Or.inr h)).trans (hS2.mono (fun _ h => Or.inl h)), ⟨_, g1.set_ 1 v3, g2, hR.step hS2 (fun e => hcd e.symm)⟩, h1, h2, hl⟩
theorem TrefAt.lay {v2 : Value} {l2 : List Tr} (h : TrefAt own c d w p room l) (hcd : c ≠ d) (hU : Upd (fun _ => False) w w') (hR : Rw 153 4 (ext own w d) d w' v2 l2.length (trsC l2)) (hl : l2.length ≤ l.length) :
    Step (· = c) own w (ext own w d) (w'.setCell ⟨p, 1, none⟩ v2) ∧ TrefAt (ext own w d) c d (w'.setCell ⟨p, 1, none⟩ v2) p room l2 := by
  obtain ⟨⟨v, hb, ho, _⟩, h1, h2, h3⟩ := h
  have hS : Step (fun _ => False) own w (ext own w d) w' := ⟨hU, fun b hb => ext_old _ _ _ hb⟩
  obtain ⟨g1, g2⟩ := hS.blk hb ho (fun h => h)
  have hS2 : Step (· = c) (ext own w d) w' (ext own w d) (w'.setCell ⟨p, 1, none⟩ v2) := ⟨(Upd.refl _ _).setCell (.inl g2) _, fun _ _ => rfl⟩
  exact ⟨(hS.mono (fun _ h => h.elim)).trans hS2, ⟨_, g1.set_ 1 v2, g2, hR.step hS2 (fun e => hcd e.symm)⟩, h1, h2, Nat.le_trans hl h3⟩
theorem tref_New_bad (w : World) (room : Int) (h : room < 1 ∨ 64 < room) :
    Calls Tryz.prog 58 #[.int .i64 room] w fun e w' => e = .returned (.tuple #[.pointer none, .int .i64 1]) ∧ w = w' := by
  by_cases h1 : room < 1
  · have hd : decide (room < 1) = true := by simpa using h1
    clear h
    go_enter Tryz.func58, Tryz.ntmps58
    go_wp2
    go_ret2
    exact ⟨rfl, rfl⟩
  · have h2 : 64 < room := by omega
    have hd : decide (room < 1) = false := by simpa using h1
    clear h
    go_enter Tryz.func58, Tryz.ntmps58
    go_wp2
    go_ret2
    exact ⟨rfl, rfl⟩
theorem tref_New (own : Nat → Nat) (c d : Nat) (w : World) (r : Nat) (hr1 : 1 ≤ r ∧ r ≤ 64) :
    Calls Tryz.prog 58 #[.int .i64 (r : Int)] w fun e w' => e = .returned (.tuple #[.pointer (some ⟨w.heap.size, 0, none⟩), .int .i64 0]) ∧ Step (fun _ => False) own w (ext own w c) w' ∧ TrefAt (ext own w c) c d w' w.heap.size r [] := by
  have hd : decide ((r : Int) < 1) = false := by simp; omega
  have hb := Blk.new w 82 #[.int .i64 (r : Int), .slice none 0 0]
  have H := Lib.hid (show Step (fun _ => False) own w (ext own w c) (w.alloc (.cells #[.int .i64 (r : Int), .slice none 0 0] 82)) ∧ TrefAt (ext own w c) c d (w.alloc (.cells #[.int .i64 (r : Int), .slice none 0 0] 82)) w.heap.size r [] from
    ⟨⟨(Upd.refl _ _).alloc _, fun b hb => ext_old _ _ _ hb⟩, ⟨_, hb, ext_new _ _ _ (Nat.le_refl _), Rw.nil _ _ _ _ _⟩, hr1.1, hr1.2, by simp⟩)
  clear hb
  go_enter Tryz.func58, Tryz.ntmps58
  go_wp2
  go_ret2
  exact ⟨rfl, H.out.1, H.out.2⟩
set_option maxHeartbeats 2000000 in
theorem tref_drop (h : TrefAt own c d w p room l) (hcd : c ≠ d) (v : Int) (one : Bool) (pg : Int) :
    Calls Tryz.prog 111 #[.pointer (some ⟨p, 0, none⟩), .int .i64 v, .bool one, .int .u64 pg] w fun e w' => e = .returned (.tuple #[]) ∧ ∃ own', Step (· = c) own w own' w' ∧ TrefAt own' c d w' p room (dropT l v one pg) := by
  obtain ⟨⟨v1, hb, ho, hR⟩, h1, h2, h3⟩ := id h
  have c1 : w.cell? ⟨p, 1, none⟩ = some v1 := hb.cell 1
  have z1 := hb.frozen 1
  have hlt := hb.lt
  obtain ⟨A, cap, rfl, hcap, hform⟩ := hR.form
  have HR := Lib.hid hform
  have HT := Lib.hid trans_parts
  have H0 := Lib.hid h
  have hl64 : l.length ≤ 64 := by omega
  clear h hb ho hR hform h1 h2 h3
  go_enter Tryz.func111, Tryz.ntmps111
  go_wp2
  go_loopw [8, 9] (fun s i wr => ∃ (k : Nat), k ≤ l.length ∧ i = .int .i64 (k : Int) ∧ Hid (∃ own', Step (· = 0) (up1 own w) w own' wr ∧ Rw 153 4 own' 0 wr s (dropT (l.take k) v one pg).length (trsC (dropT (l.take k) v one pg)))) (fun _ i _ => l.length - (intOf i).toNat)
  case atStart => exact ⟨0, by omega, rfl, _, Step.refl _ _ _, Rw.nil _ _ _ _ _⟩
  case round =>
    obtain ⟨k, hk, rfl, HL⟩ := hrel
    obtain ⟨own2, hS2, hO2⟩ := HL.out
    have hUp := up1_upd hS2
    have cw : wr.cell? ⟨p, 1, none⟩ = some (.slice A l.length cap) := (hUp.cell (p := ⟨p, 1, none⟩) hlt (fun h => h)).trans c1
    by_cases hlt2 : k < l.length
    · obtain ⟨g, o, rfl, hg, hgl, _, hc⟩ := HR.out (by omega)
      have hget : l[k]? = some l[k] := List.getElem?_eq_getElem hlt2
      have htk : l.take (k + 1) = l.take k ++ [l[k]] := by rw [List.take_add_one, hget]; rfl
      obtain ⟨q0, q1, q2, q3⟩ := trsC_at l k _ hget
      have c0 := (hUp.cell (p := ⟨g, o + k * 4, none⟩) hgl (fun h => h)).trans (hc _ _ q0)
      have d1 := (hUp.cell (p := ⟨g, o + (k * 4 + 1), none⟩) hgl (fun h => h)).trans (hc _ _ q1)
      have d2 := (hUp.cell (p := ⟨g, o + (k * 4 + 2), none⟩) hgl (fun h => h)).trans (hc _ _ q2)
      have d3 := (hUp.cell (p := ⟨g, o + (k * 4 + 3), none⟩) hgl (fun h => h)).trans (hc _ _ q3)
      simp only [← Nat.add_assoc] at d1 d2 d3
      generalize l[k] = x at *
      have hlt' : (k : Int) < (l.length : Int) := by omega
      have hdr := dropT_snoc (l.take k) x v one pg
      rw [← htk] at hdr
      have hkl : (dropT (l.take k) v one pg).length ≤ l.length := Nat.le_trans (List.length_filter_le _ _) (by rw [List.length_take]; omega)
      have HKL := Lib.hid hkl
      have H2 := Lib.hid (And.intro hS2 hO2)
      obtain ⟨i, z, hi, hz, hs, hby, hzs⟩ := HT.out
      have HI := Lib.hid (And.intro hi (And.intro hz (And.intro hs (And.intro hby hzs))))
      clear hS2 hO2 hget htk q0 q1 q2 q3 hc HL hUp hkl hi hz hs hby hzs
      have hcs : (x.v != v || one && x.p != pg) = true ∧ ((x.v != v) = true ∨ ((x.v != v) = false ∧ one = true ∧ (x.p != pg) = true)) ∨ (x.v != v || one && x.p != pg) = false ∧ ((x.v != v) = false ∧ (one = false ∨ (one = true ∧ (x.p != pg) = false))) := by
        cases h1 : (x.v != v) <;> cases one <;> cases h2 : (x.p != pg) <;> simp
      rcases hcs with ⟨ht, hcs⟩ | ⟨ht, hcs⟩
      · rw [ht, if_pos rfl] at hdr
        have HD := Lib.hid hdr
        clear ht hdr
        rcases hcs with hq1 | ⟨hq1, rfl, hq2⟩
        all_goals
          go_wp2_with ((with_reducible show wpList _ _ _ ((⟨some 53, _, _, _, _, _⟩ : Oper) :: _) _ _); refine wpList_append_rw rfl (.tmp 44) (.tmp 52) _ rfl 153 i _ 4 32 Tryz.underlying79 HI.out.1 HI.out.2.1 HI.out.2.2.1 HI.out.2.2.2.1 HI.out.2.2.2.2 (by omega) (own := own2) (d := 0) u8 _ _ rfl (H2.out.2.step (step_allocS own2 wr _) (fun h => h)) (wr.heap.size + 1) (some ⟨wr.heap.size, 0, none⟩) 1 1 (trC x) rfl ⟨rfl, fun _ => ⟨_, rfl, Nat.lt_succ_self _, cells_new4 _ _ _ _ _ _⟩⟩ (by simp [Value.oneCell', trC]) (by unfold maxLen; have := HKL.out; omega) (by have := HKL.out; omega) ?_)
          intro v2 w5 hst5 hrow5
          have hst6 := H2.out.1.trans (((step_allocS own2 wr _).mono (C' := (· = 0)) (fun _ h => h.elim)).trans hst5)
          rw [← trsC_snoc, ← HD.out] at hrow5
          rw [show (dropT (l.take k) v _ pg).length + 1 = (dropT (l.take (k + 1)) v _ pg).length from by rw [HD.out, List.length_append]; rfl] at hrow5
          have H6 := Lib.hid (And.intro hst6 hrow5)
          clear hst5 hst6 hrow5 H2
          go_wp2
          exact ⟨⟨k + 1, by omega, by go_num, _, H6.out⟩, by simp [intOf]; omega⟩
      · rw [ht, if_neg (by decide), List.append_nil] at hdr
        have HD := Lib.hid hdr
        clear ht hdr
        obtain ⟨hq1, hcs⟩ := hcs
        rcases hcs with rfl | ⟨rfl, hq2⟩
        all_goals
          go_wp2
          exact ⟨⟨k + 1, by omega, by go_num, own2, by rw [HD.out]; exact H2.out⟩, by simp [intOf]; omega⟩
    · obtain rfl : k = l.length := by omega
      rw [List.take_length] at hO2
      obtain ⟨A2, cap2, hv2, _⟩ := hO2.form
      have hzw := (hUp.frozen' (p := ⟨p, 1, none⟩) hlt (fun h => h)).trans z1
      have hltw : p < wr.heap.size := Nat.lt_of_lt_of_le hlt hUp.size
      have H1 := Lib.hid (H0.out.lay hcd hUp (up1_row hS2 hO2 d) (List.length_filter_le _ _))
      subst hv2
      clear hS2 hO2 hUp HL
      go_wp2
      go_end0
      exact ⟨rfl, _, H1.out⟩
theorem tref_Flush (h : TrefAt own c d w p room l) (hcd : c ≠ d) (v : Int) :
    Calls Tryz.prog 89 #[.pointer (some ⟨p, 0, none⟩), .int .i64 v] w fun e w' => e = .returned (.tuple #[]) ∧ ∃ own', Step (· = c) own w own' w' ∧ TrefAt own' c d w' p room (flushT l v) := by
  have hD := tref_drop h hcd v false 0
  rw [dropT_all] at hD
  have HD := Lib.hid hD
  clear hD h
  go_enter Tryz.func89, Tryz.ntmps89
  go_wp2_with fail
  refine HD.out.mono ?_; rintro e w1 ⟨rfl, own1, hS1, hT1⟩
  have H1 := Lib.hid (And.intro hS1 hT1)
  clear hS1 hT1 HD
  go_wp2
  go_end0
  exact ⟨rfl, _, H1.out⟩
set_option maxHeartbeats 4000000 in
theorem tref_Put (h : TrefAt own c d w p room l) (hcd : c ≠ d) (t : Tr) :
    Calls Tryz.prog 109 #[.pointer (some ⟨p, 0, none⟩), .agg #[.int .i64 t.v, .int .u64 t.p, .int .u64 t.f, .int .i64 t.r]] w fun e w' => e = .returned (.tuple #[]) ∧ ∃ own', Step (fun x => x = c ∨ x = d) own w own' w' ∧ TrefAt own' c d w' p room (putT room l t) := by
  have hst : Step (fun _ => False) own w (ext own w (c + d + 1)) (w.alloc (.cells #[.int .i64 t.v, .int .u64 t.p, .int .u64 t.f, .int .i64 t.r] 153)) := ⟨(Upd.refl _ _).alloc _, fun b hb => ext_old _ _ _ hb⟩
  have hB := Blk.new w 153 #[.int .i64 t.v, .int .u64 t.p, .int .u64 t.f, .int .i64 t.r]
  have hoB : ext own w (c + d + 1) w.heap.size = c + d + 1 := ext_new _ _ _ (Nat.le_refl _)
  have hT0 := h.step hst (fun h => h) (fun h => h)
  have hFl := tref_drop hT0 hcd t.v true t.p
  rw [dropT_one] at hFl
  have HFl := Lib.hid hFl
  clear hFl
  have H0 := Lib.hid (And.intro hst (And.intro hB hoB))
  have q0 := hB.cell 0
  have q1 := hB.cell 1
  simp only [List.getElem?_toArray, List.getElem?_cons_zero, List.getElem?_cons_succ] at q0 q1
  clear hst hB hoB hT0 h
  go_enter Tryz.func109, Tryz.ntmps109
  go_wp2_with fail
  generalize w.heap.size = xb at *
  refine HFl.out.mono ?_; rintro e w1 ⟨rfl, own1, hS1, hT1⟩
  have hB1 := hS1.blk H0.out.2.1 H0.out.2.2 (by omega)
  have hS01 := (H0.out.1.mono (C' := fun x => x = c ∨ x = d) (fun _ h => h.elim)).trans (hS1.mono (fun _ h => Or.inl h))
  have hfl : (flushP l t.v t.p).length ≤ room := hT1.2.2.2
  obtain ⟨l1, hl1⟩ : ∃ l1, flushP l t.v t.p = l1 := ⟨_, rfl⟩
  rw [hl1] at hT1 hfl
  have hput : putT room l t = (if room ≤ l1.length then l1.drop 1 else l1) ++ [t] := by unfold putT; rw [hl1]
  obtain ⟨⟨v1, hb, ho, hR⟩, hr1, hr2, hr3⟩ := hT1
  have b0 : w1.cell? ⟨p, 0, none⟩ = some (.int .i64 (room : Int)) := hb.cell 0
  have b1 : w1.cell? ⟨p, 1, none⟩ = some v1 := hb.cell 1
  have z1 := hb.frozen 1
  have hlp := hb.lt
  obtain ⟨A1, cap1, hv1, hcap1, hf1⟩ := hR.form
  have H1 := Lib.hid (And.intro (And.intro hS01 hput) (And.intro hB1 (show TrefAt own1 c d w1 p room l1 from ⟨⟨v1, hb, ho, hR⟩, hr1, hr2, hr3⟩)))
  have HR1 := Lib.hid (And.intro hR hf1)
  subst hv1
  clear hS1 hB1 hS01 hput hb ho hR hf1 HFl H0 q0 q1
  go_wp2_with fail
  refine wpE_region (S := fun (W' : World) => W'.cell? ⟨p, 0, none⟩ = some (.int .i64 (room : Int)) ∧ W'.cell? ⟨p, 1, none⟩ = some (.slice A1 l1.length cap1)) (s := 9) (by kernel_rfl) ?_
  have hS : (fun (W' : World) => W'.cell? ⟨p, 0, none⟩ = some (.int .i64 (room : Int)) ∧ W'.cell? ⟨p, 1, none⟩ = some (.slice A1 l1.length cap1)) _ := ⟨b0, b1⟩
  refine wpE_take (i := 0) (oi := { dst := some 10, op := Go.Op.move (Go.Operand.tmp 0), type := 83, pos := "ref.go:34", after := #[], guard := none }) (v := ?_) rfl (by kernel_rfl) (fun _ _ _ h => h) (Or.inl ⟨by rfl, fun W hW => ?_⟩) hS ?_
  rotate_left
  · obtain ⟨hw1, hw2⟩ := hW; go_simp; (try go_bits); (try rw [if_pos (by omega)]); (try with_reducible rfl)
  (try simp only [Act.put, List.setIfInBounds_toArray, List.set_cons_succ, List.set_cons_zero])
  refine wpE_take (i := 1) (oi := { dst := some 11, op := Go.Op.nilCheck (Go.Operand.tmp 10), type := 0, pos := "ref.go:34", after := #[{ on := 0, ground := Go.Ground.data }], guard := none }) (v := ?_) rfl (by kernel_rfl) (fun _ _ _ h => h) (Or.inl ⟨by rfl, fun W hW => ?_⟩) hS ?_
  rotate_left
  · obtain ⟨hw1, hw2⟩ := hW; go_simp; (try go_bits); (try rw [if_pos (by omega)]); (try with_reducible rfl)
  (try simp only [Act.put, List.setIfInBounds_toArray, List.set_cons_succ, List.set_cons_zero])
  refine wpE_take (i := 2) (oi := { dst := some 12, op := Go.Op.fieldAddr 82 (Go.Operand.tmp 11) 1, type := 0, pos := "ref.go:34", after := #[{ on := 1, ground := Go.Ground.data }], guard := none }) (v := ?_) rfl (by kernel_rfl) (fun _ _ _ h => h) (Or.inl ⟨by rfl, fun W hW => ?_⟩) hS ?_
  rotate_left
  · obtain ⟨hw1, hw2⟩ := hW; go_simp; (try go_bits); (try rw [if_pos (by omega)]); (try with_reducible rfl)
  (try simp only [Act.put, List.setIfInBounds_toArray, List.set_cons_succ, List.set_cons_zero])
  refine wpE_take (i := 3) (oi := { dst := some 13, op := Go.Op.load 79 (Go.Operand.tmp 12), type := 79, pos := "ref.go:34", after := #[{ on := 2, ground := Go.Ground.data }], guard := none }) (v := ?_) rfl (by kernel_rfl) (fun _ _ _ h => h) (Or.inl ⟨by rfl, fun W hW => ?_⟩) hS ?_
  rotate_left
  · obtain ⟨hw1, hw2⟩ := hW; go_simp; (try go_bits); (try rw [if_pos (by omega)]); (try with_reducible rfl)
  (try simp only [Act.put, List.setIfInBounds_toArray, List.set_cons_succ, List.set_cons_zero])
  refine wpE_take (i := 4) (oi := { dst := some 14, op := Go.Op.call { callee := Go.Callee.builtin Go.Builtin.len, args := #[Go.Operand.tmp 13], argTypes := #[79] }, type := 3, pos := "ref.go:34", after := #[{ on := 3, ground := Go.Ground.data }], guard := none }) (v := ?_) rfl (by kernel_rfl) (fun _ _ _ h => h) (Or.inl ⟨by rfl, fun W hW => ?_⟩) hS ?_
  rotate_left
  · obtain ⟨hw1, hw2⟩ := hW; go_simp; (try go_bits); (try rw [if_pos (by omega)]); (try with_reducible rfl)
  (try simp only [Act.put, List.setIfInBounds_toArray, List.set_cons_succ, List.set_cons_zero])
  refine wpE_take (i := 5) (oi := { dst := some 15, op := Go.Op.move (Go.Operand.tmp 0), type := 83, pos := "ref.go:34", after := #[], guard := none }) (v := ?_) rfl (by kernel_rfl) (fun _ _ _ h => h) (Or.inl ⟨by rfl, fun W hW => ?_⟩) hS ?_
  rotate_left
  · obtain ⟨hw1, hw2⟩ := hW; go_simp; (try go_bits); (try rw [if_pos (by omega)]); (try with_reducible rfl)
  (try simp only [Act.put, List.setIfInBounds_toArray, List.set_cons_succ, List.set_cons_zero])
  refine wpE_take (i := 6) (oi := { dst := some 16, op := Go.Op.nilCheck (Go.Operand.tmp 15), type := 0, pos := "ref.go:34", after := #[{ on := 5, ground := Go.Ground.data }], guard := none }) (v := ?_) rfl (by kernel_rfl) (fun _ _ _ h => h) (Or.inl ⟨by rfl, fun W hW => ?_⟩) hS ?_
  rotate_left
  · obtain ⟨hw1, hw2⟩ := hW; go_simp; (try go_bits); (try rw [if_pos (by omega)]); (try with_reducible rfl)
  (try simp only [Act.put, List.setIfInBounds_toArray, List.set_cons_succ, List.set_cons_zero])
  refine wpE_take (i := 7) (oi := { dst := some 17, op := Go.Op.fieldAddr 82 (Go.Operand.tmp 16) 0, type := 0, pos := "ref.go:34", after := #[{ on := 6, ground := Go.Ground.data }], guard := none }) (v := ?_) rfl (by kernel_rfl) (fun _ _ _ h => h) (Or.inl ⟨by rfl, fun W hW => ?_⟩) hS ?_
  rotate_left
  · obtain ⟨hw1, hw2⟩ := hW; go_simp; (try go_bits); (try rw [if_pos (by omega)]); (try with_reducible rfl)
  (try simp only [Act.put, List.setIfInBounds_toArray, List.set_cons_succ, List.set_cons_zero])
  refine wpE_take (i := 8) (oi := { dst := some 18, op := Go.Op.load 3 (Go.Operand.tmp 17), type := 3, pos := "ref.go:34", after := #[{ on := 7, ground := Go.Ground.data }], guard := none }) (v := ?_) rfl (by kernel_rfl) (fun _ _ _ h => h) (Or.inl ⟨by rfl, fun W hW => ?_⟩) hS ?_
  rotate_left
  · obtain ⟨hw1, hw2⟩ := hW; go_simp; (try go_bits); (try rw [if_pos (by omega)]); (try with_reducible rfl)
  (try simp only [Act.put, List.setIfInBounds_toArray, List.set_cons_succ, List.set_cons_zero])
  refine wpE_last (oi := { dst := some 19, op := Go.Op.binOp Go.BinOp.geq 3 (Go.Operand.tmp 14) (Go.Operand.tmp 18) 3, type := 4, pos := "ref.go:34", after := #[{ on := 4, ground := Go.Ground.data }, { on := 8, ground := Go.Ground.data }], guard := none }) rfl (by kernel_rfl) (by kernel_rfl) (by rfl) (fun K hK => ?_)
  go_simp; (try go_bits); refine hK _ _ ?_; clear hK K
  clear hS
  have hstd : Step (fun _ => False) own1 w1 own1 w1.drew := (Step.refl _ _ _).drew
  have H1d := Lib.hid (And.intro (H1.out.1.1.trans (hstd.mono (C' := fun x => x = c ∨ x = d) (fun _ h => h.elim))) (And.intro (hstd.blk H1.out.2.1.1 H1.out.2.1.2 (fun h => h)) (H1.out.2.2.step hstd (fun h => h) (fun h => h))))
  have HRd := Lib.hid (HR1.out.1.step hstd (fun h => h))
  have b1d : w1.drew.cell? ⟨p, 1, none⟩ = some (.slice A1 l1.length cap1) := b1
  have z1d : w1.drew.frozen? ⟨p, 1, none⟩ = false := z1
  have hlpd : p < w1.drew.heap.size := hlp
  have HPU := Lib.hid H1.out.1.2
  clear b0 b1 z1 hlp hstd H1 HR1
  generalize w1.drew = w2 at *
  go_upto_if 19 with fail
  go_cut [] (fun wx => Hid (∃ own' l2, Step (fun x => x = c ∨ x = d) own w own' wx ∧ TrefAt own' c d wx p room l2 ∧ l2.length + 1 ≤ room ∧ putT room l t = l2 ++ [t] ∧ Blk wx xb 153 #[.int .i64 t.v, .int .u64 t.p, .int .u64 t.f, .int .i64 t.r] ∧ own' xb = c + d + 1))
  case first =>
    by_cases hfull : room ≤ l1.length
    · have hfi : decide (room ≤ l1.length) = true := by simpa using hfull
      obtain ⟨n, hn⟩ : ∃ n, l1.length = n + 1 := ⟨l1.length - 1, by omega⟩
      have hp := HPU.out
      rw [if_pos hfull] at hp
      have HP := Lib.hid hp
      have hR := HRd.out
      have HN := Lib.hid hn
      rw [hn] at hR b1d hcap1
      have hrow : ∃ g o, A1 = some ⟨g, o, none⟩ := by
        obtain ⟨A, cp, he, _, hf⟩ := hR.form
        cases he
        obtain ⟨g, o, rfl, _⟩ := hf (by omega)
        exact ⟨g, o, rfl⟩
      obtain ⟨g, o, rfl⟩ := hrow
      have HL1 := Lib.hid (show (l1.drop 1).length = n by rw [List.length_drop, hn]; omega)
      have HB := Lib.hid (And.intro hfl (And.intro hr1 hr2))
      clear hp hn hfl HPU HRd
      by_cases hc1 : cap1 = 1
      · subst hc1
        obtain rfl : n = 0 := by omega
        clear hR
        go_wp2
        go_meet
        have hrow : Rw 153 4 own1 d w2 (.slice none 0 0) (l1.drop 1).length (trsC (l1.drop 1)) := by rw [HL1.out, List.eq_nil_of_length_eq_zero HL1.out]; exact Rw.nil _ _ _ _ _
        obtain ⟨hs, ht⟩ := H1d.out.2.2.put hcd (Step.refl _ _ _) hrow (by rw [HL1.out]; have := HB.out; omega)
        obtain ⟨k1, k2⟩ := hs.blk H1d.out.2.1.1 H1d.out.2.1.2 (by omega)
        exact ⟨own1, l1.drop 1, H1d.out.1.trans hs, ht, by rw [HL1.out]; have := HB.out; have := HN.out; omega, HP.out, k1, k2⟩
      · have HT := Lib.hid (Rw.tail hR)
        have hc2 : 1 ≤ cap1 - 1 := by omega
        have hc3 : ((cap1 : Int) - 1 == 0) = false := by simp; omega
        obtain ⟨i, z, hi, hz, hs, hby, hzs⟩ := trans_parts
        have HI := Lib.hid (And.intro hi (And.intro hz (And.intro hs (And.intro hby hzs))))
        have HN64 := Lib.hid (show n ≤ 64 by have := HB.out; have := HN.out; omega)
        clear hR hi hz hs hby hzs
        go_wp2_with ((with_reducible show wpList _ _ _ ((⟨some 26, _, _, _, _, _⟩ : Oper) :: _) _ _); refine wpList_append_rw rfl (.const (.slice none 0 0)) (.tmp 25) _ rfl 153 i z 4 32 Tryz.underlying79 HI.out.1 HI.out.2.1 HI.out.2.2.1 HI.out.2.2.2.1 HI.out.2.2.2.2 (by omega) (own := own1) (d := d) (.slice none 0 0) 0 [] rfl (Rw.nil _ _ _ _ _) w2.heap.size (some ⟨g, o + 4, none⟩) n (cap1 - 1) ((trsC l1).drop 4) rfl (HT.out.reads rfl) (fun u hu => trsC_cell u (List.mem_of_mem_drop hu)) (by unfold maxLen; have := HN64.out; omega) (by have := HN64.out; omega) ?_)
        intro v5 w5 hst5 hrow5
        have hrow : Rw 153 4 (ext own1 w2 d) d w5 v5 (l1.drop 1).length (trsC (l1.drop 1)) := by rw [HL1.out, ← trsC_drop]; simpa using hrow5
        have hput := H1d.out.2.2.put hcd hst5 hrow (by rw [HL1.out]; have := HB.out; have := HN.out; omega)
        have hbx := hput.1.blk H1d.out.2.1.1 H1d.out.2.1.2 (by omega)
        have hb5 := H1d.out.2.2.far hst5 hcd
        obtain ⟨vq, hbq, _⟩ := hb5
        have hzq := hbq.frozen 1
        have hlq := hbq.lt
        have cq : w5.cell? ⟨p, 1, none⟩ = some vq := hbq.cell 1
        obtain ⟨A5, cap5, hv5, _⟩ := hrow5.form
        have H5 := Lib.hid (And.intro (H1d.out.1.trans hput.1) (And.intro hput.2 hbx))
        subst hv5
        clear hst5 hrow5 hrow hput hbx hbq H1d HT
        go_wp2
        go_meet
        exact ⟨_, l1.drop 1, H5.out.1, H5.out.2.1, by rw [HL1.out]; have := HB.out; have := HN.out; omega, HP.out, H5.out.2.2⟩
    · have hfi : decide (room ≤ l1.length) = false := by simpa using hfull
      have hp := HPU.out
      rw [if_neg hfull] at hp
      have HP := Lib.hid hp
      have HFU := Lib.hid hfull
      clear hp HPU HRd
      go_wp2
      go_meet
      exact ⟨own1, l1, H1d.out.1, H1d.out.2.2, by have := HFU.out; omega, HP.out, H1d.out.2.1⟩
  case rest =>
    rename World => wx
    have HC := hcut
    clear hcut H1d HPU HRd b1d z1d hlpd
    obtain ⟨own2, l2, hS, hT, hlen, hput, hX, hXo⟩ := HC.out
    obtain ⟨⟨v2, hb, ho, hR⟩, hq⟩ := hT
    have c1 : wx.cell? ⟨p, 1, none⟩ = some v2 := hb.cell 1
    have hlp := hb.lt
    have hlx := hX.lt
    have z1 := hb.frozen 1
    have e0 := hX.cell 0
    have e1 := hX.cell 1
    have e2 := hX.cell 2
    have e3 := hX.cell 3
    simp only [List.getElem?_toArray, List.getElem?_cons_zero, List.getElem?_cons_succ] at e0 e1 e2 e3
    obtain ⟨i, z, hi, hz, hs, hby, hzs⟩ := trans_parts
    have HI := Lib.hid (And.intro hi (And.intro hz (And.intro hs (And.intro hby hzs))))
    have hstd : Step (fun _ => False) own2 wx own2 wx.drew := (Step.refl _ _ _).drew
    have hsta := (step_allocS own2 wx (.cells #[.int .i64 t.v, .int .u64 t.p, .int .u64 t.f, .int .i64 t.r] 153)).drew
    have HX := Lib.hid (hsta.blk hX hXo (fun h => h))
    have HR2 := Lib.hid (hR.step hsta (fun h => h))
    have H2 := Lib.hid (And.intro (hS.trans (hsta.mono (C' := fun x => x = c ∨ x = d) (fun _ h => h.elim))) (And.intro (show TrefAt own2 c d _ p room l2 from TrefAt.step ⟨⟨v2, hb, ho, hR⟩, hq⟩ hsta (fun h => h) (fun h => h)) hput))
    have hlen64 : l2.length ≤ 64 := by have := hq.2.1; omega
    have HLN := Lib.hid (And.intro hlen hlen64)
    have hS0 : (wx.alloc (.cells #[.int .i64 t.v, .int .u64 t.p, .int .u64 t.f, .int .i64 t.r] 153)).drew.cell? ⟨p, 1, none⟩ = some v2 := (hsta.upd.cell (p := ⟨p, 1, none⟩) hlp (fun h => h)).trans c1
    have hS1 : (wx.alloc (.cells #[.int .i64 t.v, .int .u64 t.p, .int .u64 t.f, .int .i64 t.r] 153)).drew.cell? ⟨xb, 0, none⟩ = some (.int .i64 t.v) := (hsta.upd.cell (p := ⟨xb, 0, none⟩) hlx (fun h => h)).trans e0
    have hS2 : (wx.alloc (.cells #[.int .i64 t.v, .int .u64 t.p, .int .u64 t.f, .int .i64 t.r] 153)).drew.cell? ⟨xb, 1, none⟩ = some (.int .u64 t.p) := (hsta.upd.cell (p := ⟨xb, 1, none⟩) hlx (fun h => h)).trans e1
    have hS3 : (wx.alloc (.cells #[.int .i64 t.v, .int .u64 t.p, .int .u64 t.f, .int .i64 t.r] 153)).drew.cell? ⟨xb, 2, none⟩ = some (.int .u64 t.f) := (hsta.upd.cell (p := ⟨xb, 2, none⟩) hlx (fun h => h)).trans e2
    have hS4 : (wx.alloc (.cells #[.int .i64 t.v, .int .u64 t.p, .int .u64 t.f, .int .i64 t.r] 153)).drew.cell? ⟨xb, 3, none⟩ = some (.int .i64 t.r) := (hsta.upd.cell (p := ⟨xb, 3, none⟩) hlx (fun h => h)).trans e3
    have HSA := Lib.hid (And.intro hS0 (And.intro hS1 (And.intro hS2 (And.intro hS3 hS4))))
    have hza : (wx.alloc (.cells #[.int .i64 t.v, .int .u64 t.p, .int .u64 t.f, .int .i64 t.r] 153)).drew.frozen? ⟨p, 1, none⟩ = false := (hsta.upd.frozen' (p := ⟨p, 1, none⟩) hlp (fun h => h)).trans z1
    have HZA := Lib.hid hza
    clear hS hlen hput hX hXo hb ho hR hq hS0 hS1 hS2 hS3 hS4 hza hlen64 hi hz hs hby hzs hstd hsta HC z1
    go_wp2_with fail
    refine wpE_region (S := fun (W' : World) => W'.cell? ⟨p, 1, none⟩ = some v2 ∧ W'.cell? ⟨xb, 0, none⟩ = some (.int .i64 t.v) ∧ W'.cell? ⟨xb, 1, none⟩ = some (.int .u64 t.p) ∧ W'.cell? ⟨xb, 2, none⟩ = some (.int .u64 t.f) ∧ W'.cell? ⟨xb, 3, none⟩ = some (.int .i64 t.r)) (s := 10) (by kernel_rfl) ?_
    have hS : (fun (W' : World) => W'.cell? ⟨p, 1, none⟩ = some v2 ∧ W'.cell? ⟨xb, 0, none⟩ = some (.int .i64 t.v) ∧ W'.cell? ⟨xb, 1, none⟩ = some (.int .u64 t.p) ∧ W'.cell? ⟨xb, 2, none⟩ = some (.int .u64 t.f) ∧ W'.cell? ⟨xb, 3, none⟩ = some (.int .i64 t.r)) _ := ⟨c1, e0, e1, e2, e3⟩
    refine wpE_take (i := 0) (oi := { dst := some 29, op := Go.Op.move (Go.Operand.tmp 0), type := 83, pos := "ref.go:37", after := #[], guard := none }) (v := ?_) rfl (by kernel_rfl) (fun _ _ _ h => h) (Or.inl ⟨by rfl, fun W hW => ?_⟩) hS ?_
    rotate_left
    · obtain ⟨hw1, hw2, hw3, hw4, hw5⟩ := hW; go_simp; (try go_bits); (try rw [if_pos (by omega)]); (try with_reducible rfl)
    (try simp only [Act.put, List.setIfInBounds_toArray, List.set_cons_succ, List.set_cons_zero])
    refine wpE_take (i := 1) (oi := { dst := some 30, op := Go.Op.move (Go.Operand.tmp 0), type := 83, pos := "ref.go:37", after := #[], guard := none }) (v := ?_) rfl (by kernel_rfl) (fun _ _ _ h => h) (Or.inl ⟨by rfl, fun W hW => ?_⟩) hS ?_
    rotate_left
    · obtain ⟨hw1, hw2, hw3, hw4, hw5⟩ := hW; go_simp; (try go_bits); (try rw [if_pos (by omega)]); (try with_reducible rfl)
    (try simp only [Act.put, List.setIfInBounds_toArray, List.set_cons_succ, List.set_cons_zero])
    refine wpE_take (i := 2) (oi := { dst := some 31, op := Go.Op.nilCheck (Go.Operand.tmp 30), type := 0, pos := "ref.go:37", after := #[{ on := 1, ground := Go.Ground.data }], guard := none }) (v := ?_) rfl (by kernel_rfl) (fun _ _ _ h => h) (Or.inl ⟨by rfl, fun W hW => ?_⟩) hS ?_
    rotate_left
    · obtain ⟨hw1, hw2, hw3, hw4, hw5⟩ := hW; go_simp; (try go_bits); (try rw [if_pos (by omega)]); (try with_reducible rfl)
    (try simp only [Act.put, List.setIfInBounds_toArray, List.set_cons_succ, List.set_cons_zero])
    refine wpE_take (i := 3) (oi := { dst := some 32, op := Go.Op.fieldAddr 82 (Go.Operand.tmp 31) 1, type := 0, pos := "ref.go:37", after := #[{ on := 2, ground := Go.Ground.data }], guard := none }) (v := ?_) rfl (by kernel_rfl) (fun _ _ _ h => h) (Or.inl ⟨by rfl, fun W hW => ?_⟩) hS ?_
    rotate_left
    · obtain ⟨hw1, hw2, hw3, hw4, hw5⟩ := hW; go_simp; (try go_bits); (try rw [if_pos (by omega)]); (try with_reducible rfl)
    (try simp only [Act.put, List.setIfInBounds_toArray, List.set_cons_succ, List.set_cons_zero])
    refine wpE_take (i := 4) (oi := { dst := some 33, op := Go.Op.load 79 (Go.Operand.tmp 32), type := 79, pos := "ref.go:37", after := #[{ on := 3, ground := Go.Ground.data }], guard := none }) (v := ?_) rfl (by kernel_rfl) (fun _ _ _ h => h) (Or.inl ⟨by rfl, fun W hW => ?_⟩) hS ?_
    rotate_left
    · obtain ⟨hw1, hw2, hw3, hw4, hw5⟩ := hW; go_simp; (try go_bits); (try rw [if_pos (by omega)]); (try with_reducible rfl)
    (try simp only [Act.put, List.setIfInBounds_toArray, List.set_cons_succ, List.set_cons_zero])
    refine wpE_take (i := 5) (oi := { dst := some 34, op := Go.Op.load 153 (Go.Operand.tmp 3), type := 153, pos := "ref.go:37", after := #[], guard := none }) (v := ?_) rfl (by kernel_rfl) (fun _ _ _ h => h) (Or.inl ⟨by rfl, fun W hW => ?_⟩) hS ?_
    rotate_left
    · obtain ⟨hw1, hw2, hw3, hw4, hw5⟩ := hW; go_simp; (try go_bits); (try rw [if_pos (by omega)]); (try with_reducible rfl)
    (try simp only [Act.put, List.setIfInBounds_toArray, List.set_cons_succ, List.set_cons_zero])
    refine wpE_only (i := 6) (oi := { dst := some 35, op := Go.Op.buildSlice 79 1 #[(0, Go.Operand.tmp 34)], type := 79, pos := "ref.go:37", after := #[{ on := 5, ground := Go.Ground.data }], guard := none }) rfl (by kernel_rfl) (by rfl) (fun K hK => ?_)
    go_simp
    have hS := HSA.out
    refine hK _ _ hS ?_; clear hK K
    (try simp only [Act.put, List.setIfInBounds_toArray, List.set_cons_succ, List.set_cons_zero])
    refine wpE_only (i := 7) (oi := { dst := some 36, op := Go.Op.call { callee := Go.Callee.builtin Go.Builtin.append, args := #[Go.Operand.tmp 33, Go.Operand.tmp 35], argTypes := #[79, 79] }, type := 79, pos := "ref.go:37", after := #[{ on := 4, ground := Go.Ground.data }, { on := 6, ground := Go.Ground.data }], guard := none }) rfl (by kernel_rfl) (by rfl) (fun K hK => ?_)
    refine wp_append_rw (.tmp 33) (.tmp 35) _ rfl 153 i z 4 32 Tryz.underlying79 HI.out.1 HI.out.2.1 HI.out.2.2.1 HI.out.2.2.2.1 HI.out.2.2.2.2 (by omega) (own := own2) (d := d) v2 _ _ rfl HR2.out (wx.heap.size + 1) (some ⟨wx.heap.size, 0, none⟩) 1 1 (trC t) rfl ⟨rfl, fun _ => ⟨_, rfl, Nat.lt_succ_self _, cells_new4 wx _ _ _ _ _⟩⟩ (by simp [Value.oneCell', trC]) (by unfold maxLen; have := HLN.out; omega) (by have := HLN.out; omega) ?_
    intro v3 w3 hst3 hrow3
    have hrow3' : Rw 153 4 (ext own2 (wx.alloc (.cells #[.int .i64 t.v, .int .u64 t.p, .int .u64 t.f, .int .i64 t.r] 153)).drew d) d w3 v3 (l2 ++ [t]).length (trsC (l2 ++ [t])) := by rw [trsC_snoc, List.length_append]; exact hrow3
    have H3 := Lib.hid (H2.out.2.1.put hcd hst3 hrow3' (by rw [List.length_append]; exact HLN.out.1))
    have hb3 := H2.out.2.1.far hst3 hcd
    rw [HSA.out.1] at hb3
    obtain ⟨vq, hbq, hcq⟩ := hb3
    have hzq := hbq.frozen 1
    have hlq := hbq.lt
    obtain ⟨A3, cap3, hv3, _⟩ := hrow3.form
    subst hv3
    have hX3 := (hst3.blk HX.out.1 HX.out.2 (by omega)).1
    have f0 := hX3.cell 0
    have f1 := hX3.cell 1
    have f2 := hX3.cell 2
    have f3 := hX3.cell 3
    simp only [List.getElem?_toArray, List.getElem?_cons_zero, List.getElem?_cons_succ] at f0 f1 f2 f3
    have hS : w3.cell? ⟨p, 1, none⟩ = some v2 ∧ w3.cell? ⟨xb, 0, none⟩ = some (.int .i64 t.v) ∧ w3.cell? ⟨xb, 1, none⟩ = some (.int .u64 t.p) ∧ w3.cell? ⟨xb, 2, none⟩ = some (.int .u64 t.f) ∧ w3.cell? ⟨xb, 3, none⟩ = some (.int .i64 t.r) := ⟨hcq, f0, f1, f2, f3⟩
    clear hst3 hrow3 hrow3' hbq hX3 f0 f1 f2 f3
    refine hK _ _ hS ?_; clear hK K
    (try simp only [Act.put, List.setIfInBounds_toArray, List.set_cons_succ, List.set_cons_zero])
    refine wpE_take (i := 8) (oi := { dst := some 37, op := Go.Op.nilCheck (Go.Operand.tmp 29), type := 0, pos := "ref.go:37", after := #[{ on := 0, ground := Go.Ground.data }, { on := 0, ground := Go.Ground.phase }, { on := 1, ground := Go.Ground.phase }, { on := 2, ground := Go.Ground.phase }, { on := 3, ground := Go.Ground.phase }, { on := 4, ground := Go.Ground.phase }, { on := 5, ground := Go.Ground.phase }, { on := 6, ground := Go.Ground.phase }, { on := 7, ground := Go.Ground.phase }], guard := none }) (v := ?_) rfl (by kernel_rfl) (fun _ _ _ h => h) (Or.inl ⟨by rfl, fun W hW => ?_⟩) hS ?_
    rotate_left
    · obtain ⟨hw1, hw2, hw3, hw4, hw5⟩ := hW; go_simp; (try go_bits); (try rw [if_pos (by omega)]); (try with_reducible rfl)
    (try simp only [Act.put, List.setIfInBounds_toArray, List.set_cons_succ, List.set_cons_zero])
    refine wpE_take (i := 9) (oi := { dst := some 38, op := Go.Op.fieldAddr 82 (Go.Operand.tmp 37) 1, type := 0, pos := "ref.go:37", after := #[{ on := 8, ground := Go.Ground.data }, { on := 0, ground := Go.Ground.phase }, { on := 1, ground := Go.Ground.phase }, { on := 2, ground := Go.Ground.phase }, { on := 3, ground := Go.Ground.phase }, { on := 4, ground := Go.Ground.phase }, { on := 5, ground := Go.Ground.phase }, { on := 6, ground := Go.Ground.phase }, { on := 7, ground := Go.Ground.phase }], guard := none }) (v := ?_) rfl (by kernel_rfl) (fun _ _ _ h => h) (Or.inl ⟨by rfl, fun W hW => ?_⟩) hS ?_
    rotate_left
    · obtain ⟨hw1, hw2, hw3, hw4, hw5⟩ := hW; go_simp; (try go_bits); (try rw [if_pos (by omega)]); (try with_reducible rfl)
    (try simp only [Act.put, List.setIfInBounds_toArray, List.set_cons_succ, List.set_cons_zero])
    refine wpE_last (oi := { dst := none, op := Go.Op.store 79 (Go.Operand.tmp 38) (Go.Operand.tmp 36), type := 0, pos := "ref.go:37", after := #[{ on := 9, ground := Go.Ground.data }, { on := 7, ground := Go.Ground.data }, { on := 7, ground := Go.Ground.chain }, { on := 0, ground := Go.Ground.phase }, { on := 1, ground := Go.Ground.phase }, { on := 2, ground := Go.Ground.phase }, { on := 3, ground := Go.Ground.phase }, { on := 4, ground := Go.Ground.phase }, { on := 5, ground := Go.Ground.phase }, { on := 6, ground := Go.Ground.phase }, { on := 7, ground := Go.Ground.phase }], guard := none }) rfl (by kernel_rfl) (by kernel_rfl) (by rfl) (fun K hK => ?_)
    go_simp; refine hK _ _ ?_; clear hK K
    clear hS
    go_wp2
    go_end0
    rw [H2.out.2.2]
    exact ⟨rfl, _, H2.out.1.trans H3.out.1, H3.out.2⟩
end
end Go.Proofs.YtonhlgfgbdiapaaGreat
