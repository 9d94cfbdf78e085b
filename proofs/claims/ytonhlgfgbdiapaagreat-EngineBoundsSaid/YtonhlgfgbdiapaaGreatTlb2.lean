import Derived.Test.YtonhlgfgbdiapaaGreatTlb
/- The TLB: New, FlushPage, Put, Entries. -/
namespace Go.Proofs.YtonhlgfgbdiapaaGreat
set_option linter.unusedVariables false
set_option linter.unusedSimpArgs false
open Go.RowKit
set_option maxRecDepth 100000

/-- an entry is put in -/
def putT (room : Nat) (l : List Tr) (t : Tr) : List Tr := (if room ≤ (flushP l t.v t.p).length then (flushP l t.v t.p).drop 1 else flushP l t.v t.p) ++ [t]
section
variable {own own' : Nat → Nat} {c d p room : Nat} {w w' : World} {l : List Tr}
theorem tlb_New_bad (w : World) (room : Int) (h : room < 1 ∨ 64 < room) :
    Calls Tryz.prog 57 #[.int .i64 room] w fun e w' => e = .returned (.tuple #[.pointer none, .int .i64 1]) ∧ w = w' := by
  by_cases h1 : room < 1
  · have hd : decide (room < 1) = true := by simpa using h1
    clear h
    go_enter Tryz.func57, Tryz.ntmps57
    go_wp2
    go_ret2
    exact ⟨rfl, rfl⟩
  · have h2 : 64 < room := by omega
    have hd : decide (room < 1) = false := by simpa using h1
    clear h
    go_enter Tryz.func57, Tryz.ntmps57
    go_wp2
    go_ret2
    exact ⟨rfl, rfl⟩
theorem tlb_New (own : Nat → Nat) (c d : Nat) (w : World) (r : Nat) (hr1 : 1 ≤ r ∧ r ≤ 64) :
    Calls Tryz.prog 57 #[.int .i64 (r : Int)] w fun e w' => e = .returned (.tuple #[.pointer (some ⟨w.heap.size, 0, none⟩), .int .i64 0]) ∧ Step (fun _ => False) own w (ext own w c) w' ∧ TlbAt (ext own w c) c d w' w.heap.size r [] := by
  have hd : decide ((r : Int) < 1) = false := by simp; omega
  have hb := Blk.new w 179 #[.int .i64 (r : Int), .slice none 0 0]
  have H := Lib.hid (show Step (fun _ => False) own w (ext own w c) (w.alloc (.cells #[.int .i64 (r : Int), .slice none 0 0] 179)) ∧ TlbAt (ext own w c) c d (w.alloc (.cells #[.int .i64 (r : Int), .slice none 0 0] 179)) w.heap.size r [] from
    ⟨⟨(Upd.refl _ _).alloc _, fun b hb => ext_old _ _ _ hb⟩, ⟨_, hb, ext_new _ _ _ (Nat.le_refl _), Rw.nil _ _ _ _ _⟩, hr1.1, hr1.2, by simp⟩)
  clear hb
  go_enter Tryz.func57, Tryz.ntmps57
  go_wp2
  go_ret2
  exact ⟨rfl, H.out.1, H.out.2⟩
theorem tlb_FlushPage (h : TlbAt own c d w p room l) (hcd : c ≠ d) (v pg : Int) :
    Calls Tryz.prog 100 #[.pointer (some ⟨p, 0, none⟩), .int .i64 v, .int .u64 pg] w fun e w' => e = .returned (.tuple #[]) ∧ ∃ own', Step (· = c) own w own' w' ∧ TlbAt own' c d w' p room (flushP l v pg) := by
  obtain ⟨⟨v1, hb, ho, hR⟩, h1, h2, h3⟩ := h
  have hst := (step_allocS own w (.cells #[.int .i64 v] 3)).trans (step_allocS own (w.alloc (.cells #[.int .i64 v] 3)) (.cells #[.int .u64 pg] 23))
  have hB := (Blk.new w 3 #[.int .i64 v]).alloc (.cells #[.int .u64 pg] 23)
  have hB2 := Blk.new (w.alloc (.cells #[.int .i64 v] 3)) 23 #[.int .u64 pg]
  rw [World.size_alloc] at hB2
  have hb1 := hst.blk hb ho (fun h => h)
  have c1 := hb1.1.cell 1
  simp only [List.getElem?_toArray, List.getElem?_cons_zero, List.getElem?_cons_succ] at c1
  have z1 := hb1.1.frozen 1
  have hlt := hb.lt
  have H0 := Lib.hid (And.intro hst (show TlbAt own c d ((w.alloc (.cells #[.int .i64 v] 3)).alloc (.cells #[.int .u64 pg] 23)) p room l from ⟨⟨v1, hb1.1, hb1.2, hR.step hst (fun h => h)⟩, h1, h2, h3⟩))
  have HL := Lib.hid (tlb_left2 123 (.pointer (some ⟨w.heap.size, 0, none⟩)) (.pointer (some ⟨w.heap.size + 1, 0, none⟩)) (fun t => t.v != v || t.p != pg) (hR.step hst (fun h => h)) (by omega) cf_flushP (fun x w' hU => tlb_flushP1 x w.heap.size (w.heap.size + 1) v pg (hB.upd hU (fun h => h)) (hB2.upd hU (fun h => h))) d)
  have hlt0 : p < ((w.alloc (.cells #[.int .i64 v] 3)).alloc (.cells #[.int .u64 pg] 23)).heap.size := hb1.1.lt
  clear hst hB hB2 hb1 hb ho hR h1 h2 h3
  go_enter Tryz.func100, Tryz.ntmps100
  go_wp2_with fail
  refine HL.out.mono ?_; rintro e w1 ⟨v2, rfl, hS1, hR1⟩
  have x1 := (hS1.upd.cell (p := ⟨p, 1, none⟩) hlt0 (fun h => h)).trans c1
  have y1 := hS1.upd.frozen' (p := ⟨p, 1, none⟩) hlt0 (fun h => h)
  rw [z1] at y1
  have hlt1 : p < w1.heap.size := Nat.lt_of_lt_of_le hlt0 hS1.upd.size
  have H1 := Lib.hid (H0.out.2.lay hcd hS1.upd hR1 (List.length_filter_le _ _))
  obtain ⟨A2, cap2, hv2, _⟩ := hR1.form
  subst hv2
  clear hS1 hR1 HL c1 z1 hlt0
  go_wp2
  go_end0
  exact ⟨rfl, _, (H0.out.1.mono (fun _ h => h.elim)).trans H1.out.1, H1.out.2⟩
end
theorem TlbAt.far {own own' : Nat → Nat} {c d p room : Nat} {w w' : World} {l : List Tr} {C : Nat → Prop} (h : TlbAt own c d w p room l) (hS : Step C own w own' w') (hc : ¬ C c) : ∃ v, Blk w' p 179 #[.int .i64 (room : Int), v] ∧ w'.cell? ⟨p, 1, none⟩ = w.cell? ⟨p, 1, none⟩ := by
  obtain ⟨⟨v, hb, ho, _⟩, _⟩ := h
  exact ⟨v, (hS.blk hb ho hc).1, hS.upd.cell (p := ⟨p, 1, none⟩) hb.lt (by show ¬ C (own p); rw [ho]; exact hc)⟩
/-- the last two steps of Put: the entry is laid behind the list v2 = l2, which becomes the TLB's -/
theorem TlbAt.put {own : Nat → Nat} {c d p room : Nat} {w w3 : World} {l l3 : List Tr} {v3 : Value} {own3 : Nat → Nat} (h : TlbAt own c d w p room l) (hcd : c ≠ d) (hS : Step (· = d) own w own3 w3) (hR : Rw 153 4 own3 d w3 v3 l3.length (trsC l3)) (hl : l3.length ≤ room) :
    Step (fun x => x = c ∨ x = d) own w own3 (w3.setCell ⟨p, 1, none⟩ v3) ∧ TlbAt own3 c d (w3.setCell ⟨p, 1, none⟩ v3) p room l3 := by
  obtain ⟨⟨v, hb, ho, _⟩, h1, h2, h3⟩ := h
  obtain ⟨g1, g2⟩ := hS.blk hb ho (fun e => hcd e)
  have hS2 : Step (· = c) own3 w3 own3 (w3.setCell ⟨p, 1, none⟩ v3) := ⟨(Upd.refl _ _).setCell (.inl g2) _, fun _ _ => rfl⟩
  exact ⟨(hS.mono (fun _ h => Or.inr h)).trans (hS2.mono (fun _ h => Or.inl h)), ⟨_, g1.set_ 1 v3, g2, hR.step hS2 (fun e => hcd e.symm)⟩, h1, h2, hl⟩
section
variable {own own' : Nat → Nat} {c d p room : Nat} {w w' : World} {l : List Tr}
set_option maxHeartbeats 4000000 in
theorem tlb_Put (h : TlbAt own c d w p room l) (hcd : c ≠ d) (t : Tr) :
    Calls Tryz.prog 67 #[.pointer (some ⟨p, 0, none⟩), .agg #[.int .i64 t.v, .int .u64 t.p, .int .u64 t.f, .int .i64 t.r]] w fun e w' => e = .returned (.tuple #[]) ∧ ∃ own', Step (fun x => x = c ∨ x = d) own w own' w' ∧ TlbAt own' c d w' p room (putT room l t) := by
  have hst : Step (fun _ => False) own w (ext own w (c + d + 1)) (w.alloc (.cells #[.int .i64 t.v, .int .u64 t.p, .int .u64 t.f, .int .i64 t.r] 153)) := ⟨(Upd.refl _ _).alloc _, fun b hb => ext_old _ _ _ hb⟩
  have hB := Blk.new w 153 #[.int .i64 t.v, .int .u64 t.p, .int .u64 t.f, .int .i64 t.r]
  have hoB : ext own w (c + d + 1) w.heap.size = c + d + 1 := ext_new _ _ _ (Nat.le_refl _)
  have hT0 := h.step hst (fun h => h) (fun h => h)
  have HFl := Lib.hid (tlb_FlushPage hT0 hcd t.v t.p)
  have H0 := Lib.hid (And.intro hst (And.intro hB hoB))
  have q0 := hB.cell 0
  have q1 := hB.cell 1
  simp only [List.getElem?_toArray, List.getElem?_cons_zero, List.getElem?_cons_succ] at q0 q1
  clear hst hB hoB hT0 h
  go_enter Tryz.func67, Tryz.ntmps67
  go_wp2_with fail
  generalize w.heap.size = xb at *
  refine HFl.out.mono ?_; rintro e w1 ⟨rfl, own1, hS1, hT1⟩
  have hB1 := hS1.blk H0.out.2.1 H0.out.2.2 (by omega)
  have hS01 := (H0.out.1.mono (C' := fun x => x = c ∨ x = d) (fun _ h => h.elim)).trans (hS1.mono (fun _ h => Or.inl h))
  have hfl : (flushP l t.v t.p).length ≤ room := hT1.2.2.2
  obtain ⟨l1, hl1⟩ : ∃ l1, flushP l t.v t.p = l1 := ⟨_, rfl⟩
  rw [hl1] at hT1 hfl
  have hput : putT room l t = (if room ≤ l1.length then l1.drop 1 else l1) ++ [t] := by unfold putT; rw [hl1]
  obtain ⟨⟨v1, hb, ho, hR⟩, hr1, hr2, hr3⟩ := hT1
  have b0 : w1.cell? ⟨p, 0, none⟩ = some (.int .i64 (room : Int)) := hb.cell 0
  have b1 : w1.cell? ⟨p, 1, none⟩ = some v1 := hb.cell 1
  have z1 := hb.frozen 1
  have hlp := hb.lt
  obtain ⟨A1, cap1, hv1, hcap1, hf1⟩ := hR.form
  have H1 := Lib.hid (And.intro (And.intro hS01 hput) (And.intro hB1 (show TlbAt own1 c d w1 p room l1 from ⟨⟨v1, hb, ho, hR⟩, hr1, hr2, hr3⟩)))
  have HR1 := Lib.hid (And.intro hR hf1)
  subst hv1
  clear hS1 hB1 hS01 hput hb ho hR hf1 HFl H0 q0 q1
  go_wp2_with fail
  refine wpE_region (S := fun (W' : World) => W'.cell? ⟨p, 0, none⟩ = some (.int .i64 (room : Int)) ∧ W'.cell? ⟨p, 1, none⟩ = some (.slice A1 l1.length cap1)) (s := 9) (by kernel_rfl) ?_
  have hS : (fun (W' : World) => W'.cell? ⟨p, 0, none⟩ = some (.int .i64 (room : Int)) ∧ W'.cell? ⟨p, 1, none⟩ = some (.slice A1 l1.length cap1)) _ := ⟨b0, b1⟩
  refine wpE_take (i := 0) (oi := { dst := some 10, op := Go.Op.move (Go.Operand.tmp 0), type := 93, pos := "tlb.go:38", after := #[], guard := none }) (v := ?_) rfl (by kernel_rfl) (fun _ _ _ h => h) (Or.inl ⟨by rfl, fun W hW => ?_⟩) hS ?_
  rotate_left
  · obtain ⟨hw1, hw2⟩ := hW; go_simp; (try go_bits); (try rw [if_pos (by omega)]); (try with_reducible rfl)
  (try simp only [Act.put, List.setIfInBounds_toArray, List.set_cons_succ, List.set_cons_zero])
  refine wpE_take (i := 1) (oi := { dst := some 11, op := Go.Op.nilCheck (Go.Operand.tmp 10), type := 0, pos := "tlb.go:38", after := #[{ on := 0, ground := Go.Ground.data }], guard := none }) (v := ?_) rfl (by kernel_rfl) (fun _ _ _ h => h) (Or.inl ⟨by rfl, fun W hW => ?_⟩) hS ?_
  rotate_left
  · obtain ⟨hw1, hw2⟩ := hW; go_simp; (try go_bits); (try rw [if_pos (by omega)]); (try with_reducible rfl)
  (try simp only [Act.put, List.setIfInBounds_toArray, List.set_cons_succ, List.set_cons_zero])
  refine wpE_take (i := 2) (oi := { dst := some 12, op := Go.Op.fieldAddr 179 (Go.Operand.tmp 11) 1, type := 0, pos := "tlb.go:38", after := #[{ on := 1, ground := Go.Ground.data }], guard := none }) (v := ?_) rfl (by kernel_rfl) (fun _ _ _ h => h) (Or.inl ⟨by rfl, fun W hW => ?_⟩) hS ?_
  rotate_left
  · obtain ⟨hw1, hw2⟩ := hW; go_simp; (try go_bits); (try rw [if_pos (by omega)]); (try with_reducible rfl)
  (try simp only [Act.put, List.setIfInBounds_toArray, List.set_cons_succ, List.set_cons_zero])
  refine wpE_take (i := 3) (oi := { dst := some 13, op := Go.Op.load 79 (Go.Operand.tmp 12), type := 79, pos := "tlb.go:38", after := #[{ on := 2, ground := Go.Ground.data }], guard := none }) (v := ?_) rfl (by kernel_rfl) (fun _ _ _ h => h) (Or.inl ⟨by rfl, fun W hW => ?_⟩) hS ?_
  rotate_left
  · obtain ⟨hw1, hw2⟩ := hW; go_simp; (try go_bits); (try rw [if_pos (by omega)]); (try with_reducible rfl)
  (try simp only [Act.put, List.setIfInBounds_toArray, List.set_cons_succ, List.set_cons_zero])
  refine wpE_take (i := 4) (oi := { dst := some 14, op := Go.Op.call { callee := Go.Callee.builtin Go.Builtin.len, args := #[Go.Operand.tmp 13], argTypes := #[79] }, type := 3, pos := "tlb.go:38", after := #[{ on := 3, ground := Go.Ground.data }], guard := none }) (v := ?_) rfl (by kernel_rfl) (fun _ _ _ h => h) (Or.inl ⟨by rfl, fun W hW => ?_⟩) hS ?_
  rotate_left
  · obtain ⟨hw1, hw2⟩ := hW; go_simp; (try go_bits); (try rw [if_pos (by omega)]); (try with_reducible rfl)
  (try simp only [Act.put, List.setIfInBounds_toArray, List.set_cons_succ, List.set_cons_zero])
  refine wpE_take (i := 5) (oi := { dst := some 15, op := Go.Op.move (Go.Operand.tmp 0), type := 93, pos := "tlb.go:38", after := #[], guard := none }) (v := ?_) rfl (by kernel_rfl) (fun _ _ _ h => h) (Or.inl ⟨by rfl, fun W hW => ?_⟩) hS ?_
  rotate_left
  · obtain ⟨hw1, hw2⟩ := hW; go_simp; (try go_bits); (try rw [if_pos (by omega)]); (try with_reducible rfl)
  (try simp only [Act.put, List.setIfInBounds_toArray, List.set_cons_succ, List.set_cons_zero])
  refine wpE_take (i := 6) (oi := { dst := some 16, op := Go.Op.nilCheck (Go.Operand.tmp 15), type := 0, pos := "tlb.go:38", after := #[{ on := 5, ground := Go.Ground.data }], guard := none }) (v := ?_) rfl (by kernel_rfl) (fun _ _ _ h => h) (Or.inl ⟨by rfl, fun W hW => ?_⟩) hS ?_
  rotate_left
  · obtain ⟨hw1, hw2⟩ := hW; go_simp; (try go_bits); (try rw [if_pos (by omega)]); (try with_reducible rfl)
  (try simp only [Act.put, List.setIfInBounds_toArray, List.set_cons_succ, List.set_cons_zero])
  refine wpE_take (i := 7) (oi := { dst := some 17, op := Go.Op.fieldAddr 179 (Go.Operand.tmp 16) 0, type := 0, pos := "tlb.go:38", after := #[{ on := 6, ground := Go.Ground.data }], guard := none }) (v := ?_) rfl (by kernel_rfl) (fun _ _ _ h => h) (Or.inl ⟨by rfl, fun W hW => ?_⟩) hS ?_
  rotate_left
  · obtain ⟨hw1, hw2⟩ := hW; go_simp; (try go_bits); (try rw [if_pos (by omega)]); (try with_reducible rfl)
  (try simp only [Act.put, List.setIfInBounds_toArray, List.set_cons_succ, List.set_cons_zero])
  refine wpE_take (i := 8) (oi := { dst := some 18, op := Go.Op.load 3 (Go.Operand.tmp 17), type := 3, pos := "tlb.go:38", after := #[{ on := 7, ground := Go.Ground.data }], guard := none }) (v := ?_) rfl (by kernel_rfl) (fun _ _ _ h => h) (Or.inl ⟨by rfl, fun W hW => ?_⟩) hS ?_
  rotate_left
  · obtain ⟨hw1, hw2⟩ := hW; go_simp; (try go_bits); (try rw [if_pos (by omega)]); (try with_reducible rfl)
  (try simp only [Act.put, List.setIfInBounds_toArray, List.set_cons_succ, List.set_cons_zero])
  refine wpE_last (oi := { dst := some 19, op := Go.Op.binOp Go.BinOp.geq 3 (Go.Operand.tmp 14) (Go.Operand.tmp 18) 3, type := 4, pos := "tlb.go:38", after := #[{ on := 4, ground := Go.Ground.data }, { on := 8, ground := Go.Ground.data }], guard := none }) rfl (by kernel_rfl) (by kernel_rfl) (by rfl) (fun K hK => ?_)
  go_simp; (try go_bits); refine hK _ _ ?_; clear hK K
  clear hS
  have hstd : Step (fun _ => False) own1 w1 own1 w1.drew := (Step.refl _ _ _).drew
  have H1d := Lib.hid (And.intro (H1.out.1.1.trans (hstd.mono (C' := fun x => x = c ∨ x = d) (fun _ h => h.elim))) (And.intro (hstd.blk H1.out.2.1.1 H1.out.2.1.2 (fun h => h)) (H1.out.2.2.step hstd (fun h => h) (fun h => h))))
  have HRd := Lib.hid (HR1.out.1.step hstd (fun h => h))
  have b1d : w1.drew.cell? ⟨p, 1, none⟩ = some (.slice A1 l1.length cap1) := b1
  have z1d : w1.drew.frozen? ⟨p, 1, none⟩ = false := z1
  have hlpd : p < w1.drew.heap.size := hlp
  have HPU := Lib.hid H1.out.1.2
  clear b0 b1 z1 hlp hstd H1 HR1
  generalize w1.drew = w2 at *
  go_upto_if 19 with fail
  go_cut [] (fun wx => Hid (∃ own' l2, Step (fun x => x = c ∨ x = d) own w own' wx ∧ TlbAt own' c d wx p room l2 ∧ l2.length + 1 ≤ room ∧ putT room l t = l2 ++ [t] ∧ Blk wx xb 153 #[.int .i64 t.v, .int .u64 t.p, .int .u64 t.f, .int .i64 t.r] ∧ own' xb = c + d + 1))
  case first =>
    by_cases hfull : room ≤ l1.length
    · have hfi : decide (room ≤ l1.length) = true := by simpa using hfull
      obtain ⟨n, hn⟩ : ∃ n, l1.length = n + 1 := ⟨l1.length - 1, by omega⟩
      have hp := HPU.out
      rw [if_pos hfull] at hp
      have HP := Lib.hid hp
      have hR := HRd.out
      have HN := Lib.hid hn
      rw [hn] at hR b1d hcap1
      have hrow : ∃ g o, A1 = some ⟨g, o, none⟩ := by
        obtain ⟨A, cp, he, _, hf⟩ := hR.form
        cases he
        obtain ⟨g, o, rfl, _⟩ := hf (by omega)
        exact ⟨g, o, rfl⟩
      obtain ⟨g, o, rfl⟩ := hrow
      have HL1 := Lib.hid (show (l1.drop 1).length = n by rw [List.length_drop, hn]; omega)
      have HB := Lib.hid (And.intro hfl (And.intro hr1 hr2))
      clear hp hn hfl HPU HRd
      by_cases hc1 : cap1 = 1
      · subst hc1
        obtain rfl : n = 0 := by omega
        have HT := Lib.hid (And.intro hR.tail0 (Rw.tail0 hR).1)
        clear hR
        go_wp2
        go_meet
        have hrow : Rw 153 4 own1 d w2 (.slice (some ⟨g, o, none⟩) 0 0) (l1.drop 1).length (trsC (l1.drop 1)) := by rw [HL1.out, ← trsC_drop]; exact HT.out.1
        obtain ⟨hs, ht⟩ := H1d.out.2.2.put hcd (Step.refl _ _ _) hrow (by rw [HL1.out]; have := HB.out; omega)
        obtain ⟨k1, k2⟩ := hs.blk H1d.out.2.1.1 H1d.out.2.1.2 (by omega)
        exact ⟨own1, l1.drop 1, H1d.out.1.trans hs, ht, by rw [HL1.out]; have := HB.out; have := HN.out; omega, HP.out, k1, k2⟩
      · have HT := Lib.hid (Rw.tail hR)
        have hc2 : 1 ≤ cap1 - 1 := by omega
        have hc3 : ((cap1 : Int) - 1 == 0) = false := by simp; omega
        clear hR
        go_wp2
        go_meet
        have hrow : Rw 153 4 own1 d w2 (.slice (some ⟨g, o + 4, none⟩) n (cap1 - 1)) (l1.drop 1).length (trsC (l1.drop 1)) := by rw [HL1.out, ← trsC_drop]; exact HT.out
        obtain ⟨hs, ht⟩ := H1d.out.2.2.put hcd (Step.refl _ _ _) hrow (by rw [HL1.out]; have := HB.out; have := HN.out; omega)
        obtain ⟨k1, k2⟩ := hs.blk H1d.out.2.1.1 H1d.out.2.1.2 (by omega)
        exact ⟨own1, l1.drop 1, H1d.out.1.trans hs, ht, by rw [HL1.out]; have := HB.out; have := HN.out; omega, HP.out, k1, k2⟩
    · have hfi : decide (room ≤ l1.length) = false := by simpa using hfull
      have hp := HPU.out
      rw [if_neg hfull] at hp
      have HP := Lib.hid hp
      have HFU := Lib.hid hfull
      clear hp HPU HRd
      go_wp2
      go_meet
      exact ⟨own1, l1, H1d.out.1, H1d.out.2.2, by have := HFU.out; omega, HP.out, H1d.out.2.1⟩
  case rest =>
    rename World => wx
    have HC := hcut
    clear hcut H1d HPU HRd b1d z1d hlpd
    obtain ⟨own2, l2, hS, hT, hlen, hput, hX, hXo⟩ := HC.out
    obtain ⟨⟨v2, hb, ho, hR⟩, hq⟩ := hT
    have c1 : wx.cell? ⟨p, 1, none⟩ = some v2 := hb.cell 1
    have hlp := hb.lt
    have hlx := hX.lt
    have z1 := hb.frozen 1
    have e0 := hX.cell 0
    have e1 := hX.cell 1
    have e2 := hX.cell 2
    have e3 := hX.cell 3
    simp only [List.getElem?_toArray, List.getElem?_cons_zero, List.getElem?_cons_succ] at e0 e1 e2 e3
    obtain ⟨i, z, hi, hz, hs, hby, hzs⟩ := trans_parts
    have HI := Lib.hid (And.intro hi (And.intro hz (And.intro hs (And.intro hby hzs))))
    have hstd : Step (fun _ => False) own2 wx own2 wx.drew := (Step.refl _ _ _).drew
    have hsta := (step_allocS own2 wx (.cells #[.int .i64 t.v, .int .u64 t.p, .int .u64 t.f, .int .i64 t.r] 153)).drew
    have HX := Lib.hid (hsta.blk hX hXo (fun h => h))
    have HR2 := Lib.hid (hR.step hsta (fun h => h))
    have H2 := Lib.hid (And.intro (hS.trans (hsta.mono (C' := fun x => x = c ∨ x = d) (fun _ h => h.elim))) (And.intro (show TlbAt own2 c d _ p room l2 from TlbAt.step ⟨⟨v2, hb, ho, hR⟩, hq⟩ hsta (fun h => h) (fun h => h)) hput))
    have hlen64 : l2.length ≤ 64 := by have := hq.2.1; omega
    have HLN := Lib.hid (And.intro hlen hlen64)
    have hS0 : (wx.alloc (.cells #[.int .i64 t.v, .int .u64 t.p, .int .u64 t.f, .int .i64 t.r] 153)).drew.cell? ⟨p, 1, none⟩ = some v2 := (hsta.upd.cell (p := ⟨p, 1, none⟩) hlp (fun h => h)).trans c1
    have hS1 : (wx.alloc (.cells #[.int .i64 t.v, .int .u64 t.p, .int .u64 t.f, .int .i64 t.r] 153)).drew.cell? ⟨xb, 0, none⟩ = some (.int .i64 t.v) := (hsta.upd.cell (p := ⟨xb, 0, none⟩) hlx (fun h => h)).trans e0
    have hS2 : (wx.alloc (.cells #[.int .i64 t.v, .int .u64 t.p, .int .u64 t.f, .int .i64 t.r] 153)).drew.cell? ⟨xb, 1, none⟩ = some (.int .u64 t.p) := (hsta.upd.cell (p := ⟨xb, 1, none⟩) hlx (fun h => h)).trans e1
    have hS3 : (wx.alloc (.cells #[.int .i64 t.v, .int .u64 t.p, .int .u64 t.f, .int .i64 t.r] 153)).drew.cell? ⟨xb, 2, none⟩ = some (.int .u64 t.f) := (hsta.upd.cell (p := ⟨xb, 2, none⟩) hlx (fun h => h)).trans e2
    have hS4 : (wx.alloc (.cells #[.int .i64 t.v, .int .u64 t.p, .int .u64 t.f, .int .i64 t.r] 153)).drew.cell? ⟨xb, 3, none⟩ = some (.int .i64 t.r) := (hsta.upd.cell (p := ⟨xb, 3, none⟩) hlx (fun h => h)).trans e3
    have HSA := Lib.hid (And.intro hS0 (And.intro hS1 (And.intro hS2 (And.intro hS3 hS4))))
    have hza : (wx.alloc (.cells #[.int .i64 t.v, .int .u64 t.p, .int .u64 t.f, .int .i64 t.r] 153)).drew.frozen? ⟨p, 1, none⟩ = false := (hsta.upd.frozen' (p := ⟨p, 1, none⟩) hlp (fun h => h)).trans z1
    have HZA := Lib.hid hza
    clear hS hlen hput hX hXo hb ho hR hq hS0 hS1 hS2 hS3 hS4 hza hlen64 hi hz hs hby hzs hstd hsta HC z1
    go_wp2_with fail
    refine wpE_region (S := fun (W' : World) => W'.cell? ⟨p, 1, none⟩ = some v2 ∧ W'.cell? ⟨xb, 0, none⟩ = some (.int .i64 t.v) ∧ W'.cell? ⟨xb, 1, none⟩ = some (.int .u64 t.p) ∧ W'.cell? ⟨xb, 2, none⟩ = some (.int .u64 t.f) ∧ W'.cell? ⟨xb, 3, none⟩ = some (.int .i64 t.r)) (s := 10) (by kernel_rfl) ?_
    have hS : (fun (W' : World) => W'.cell? ⟨p, 1, none⟩ = some v2 ∧ W'.cell? ⟨xb, 0, none⟩ = some (.int .i64 t.v) ∧ W'.cell? ⟨xb, 1, none⟩ = some (.int .u64 t.p) ∧ W'.cell? ⟨xb, 2, none⟩ = some (.int .u64 t.f) ∧ W'.cell? ⟨xb, 3, none⟩ = some (.int .i64 t.r)) _ := ⟨c1, e0, e1, e2, e3⟩
    refine wpE_take (i := 0) (oi := { dst := some 28, op := Go.Op.move (Go.Operand.tmp 0), type := 93, pos := "tlb.go:41", after := #[], guard := none }) (v := ?_) rfl (by kernel_rfl) (fun _ _ _ h => h) (Or.inl ⟨by rfl, fun W hW => ?_⟩) hS ?_
    rotate_left
    · obtain ⟨hw1, hw2, hw3, hw4, hw5⟩ := hW; go_simp; (try go_bits); (try rw [if_pos (by omega)]); (try with_reducible rfl)
    (try simp only [Act.put, List.setIfInBounds_toArray, List.set_cons_succ, List.set_cons_zero])
    refine wpE_take (i := 1) (oi := { dst := some 29, op := Go.Op.move (Go.Operand.tmp 0), type := 93, pos := "tlb.go:41", after := #[], guard := none }) (v := ?_) rfl (by kernel_rfl) (fun _ _ _ h => h) (Or.inl ⟨by rfl, fun W hW => ?_⟩) hS ?_
    rotate_left
    · obtain ⟨hw1, hw2, hw3, hw4, hw5⟩ := hW; go_simp; (try go_bits); (try rw [if_pos (by omega)]); (try with_reducible rfl)
    (try simp only [Act.put, List.setIfInBounds_toArray, List.set_cons_succ, List.set_cons_zero])
    refine wpE_take (i := 2) (oi := { dst := some 30, op := Go.Op.nilCheck (Go.Operand.tmp 29), type := 0, pos := "tlb.go:41", after := #[{ on := 1, ground := Go.Ground.data }], guard := none }) (v := ?_) rfl (by kernel_rfl) (fun _ _ _ h => h) (Or.inl ⟨by rfl, fun W hW => ?_⟩) hS ?_
    rotate_left
    · obtain ⟨hw1, hw2, hw3, hw4, hw5⟩ := hW; go_simp; (try go_bits); (try rw [if_pos (by omega)]); (try with_reducible rfl)
    (try simp only [Act.put, List.setIfInBounds_toArray, List.set_cons_succ, List.set_cons_zero])
    refine wpE_take (i := 3) (oi := { dst := some 31, op := Go.Op.fieldAddr 179 (Go.Operand.tmp 30) 1, type := 0, pos := "tlb.go:41", after := #[{ on := 2, ground := Go.Ground.data }], guard := none }) (v := ?_) rfl (by kernel_rfl) (fun _ _ _ h => h) (Or.inl ⟨by rfl, fun W hW => ?_⟩) hS ?_
    rotate_left
    · obtain ⟨hw1, hw2, hw3, hw4, hw5⟩ := hW; go_simp; (try go_bits); (try rw [if_pos (by omega)]); (try with_reducible rfl)
    (try simp only [Act.put, List.setIfInBounds_toArray, List.set_cons_succ, List.set_cons_zero])
    refine wpE_take (i := 4) (oi := { dst := some 32, op := Go.Op.load 79 (Go.Operand.tmp 31), type := 79, pos := "tlb.go:41", after := #[{ on := 3, ground := Go.Ground.data }], guard := none }) (v := ?_) rfl (by kernel_rfl) (fun _ _ _ h => h) (Or.inl ⟨by rfl, fun W hW => ?_⟩) hS ?_
    rotate_left
    · obtain ⟨hw1, hw2, hw3, hw4, hw5⟩ := hW; go_simp; (try go_bits); (try rw [if_pos (by omega)]); (try with_reducible rfl)
    (try simp only [Act.put, List.setIfInBounds_toArray, List.set_cons_succ, List.set_cons_zero])
    refine wpE_take (i := 5) (oi := { dst := some 33, op := Go.Op.load 153 (Go.Operand.tmp 3), type := 153, pos := "tlb.go:41", after := #[], guard := none }) (v := ?_) rfl (by kernel_rfl) (fun _ _ _ h => h) (Or.inl ⟨by rfl, fun W hW => ?_⟩) hS ?_
    rotate_left
    · obtain ⟨hw1, hw2, hw3, hw4, hw5⟩ := hW; go_simp; (try go_bits); (try rw [if_pos (by omega)]); (try with_reducible rfl)
    (try simp only [Act.put, List.setIfInBounds_toArray, List.set_cons_succ, List.set_cons_zero])
    refine wpE_only (i := 6) (oi := { dst := some 34, op := Go.Op.buildSlice 79 1 #[(0, Go.Operand.tmp 33)], type := 79, pos := "tlb.go:41", after := #[{ on := 5, ground := Go.Ground.data }], guard := none }) rfl (by kernel_rfl) (by rfl) (fun K hK => ?_)
    go_simp
    have hS := HSA.out
    refine hK _ _ hS ?_; clear hK K
    (try simp only [Act.put, List.setIfInBounds_toArray, List.set_cons_succ, List.set_cons_zero])
    refine wpE_only (i := 7) (oi := { dst := some 35, op := Go.Op.call { callee := Go.Callee.builtin Go.Builtin.append, args := #[Go.Operand.tmp 32, Go.Operand.tmp 34], argTypes := #[79, 79] }, type := 79, pos := "tlb.go:41", after := #[{ on := 4, ground := Go.Ground.data }, { on := 6, ground := Go.Ground.data }], guard := none }) rfl (by kernel_rfl) (by rfl) (fun K hK => ?_)
    refine wp_append_rw (.tmp 32) (.tmp 34) _ rfl 153 i z 4 32 Tryz.underlying79 HI.out.1 HI.out.2.1 HI.out.2.2.1 HI.out.2.2.2.1 HI.out.2.2.2.2 (by omega) (own := own2) (d := d) v2 _ _ rfl HR2.out (wx.heap.size + 1) (some ⟨wx.heap.size, 0, none⟩) 1 1 (trC t) rfl ⟨rfl, fun _ => ⟨_, rfl, Nat.lt_succ_self _, cells_new4 wx _ _ _ _ _⟩⟩ (by simp [Value.oneCell', trC]) (by unfold maxLen; have := HLN.out; omega) (by have := HLN.out; omega) ?_
    intro v3 w3 hst3 hrow3
    have hrow3' : Rw 153 4 (ext own2 (wx.alloc (.cells #[.int .i64 t.v, .int .u64 t.p, .int .u64 t.f, .int .i64 t.r] 153)).drew d) d w3 v3 (l2 ++ [t]).length (trsC (l2 ++ [t])) := by rw [trsC_snoc, List.length_append]; exact hrow3
    have H3 := Lib.hid (H2.out.2.1.put hcd hst3 hrow3' (by rw [List.length_append]; exact HLN.out.1))
    have hb3 := H2.out.2.1.far hst3 hcd
    rw [HSA.out.1] at hb3
    obtain ⟨vq, hbq, hcq⟩ := hb3
    have hzq := hbq.frozen 1
    have hlq := hbq.lt
    obtain ⟨A3, cap3, hv3, _⟩ := hrow3.form
    subst hv3
    have hX3 := (hst3.blk HX.out.1 HX.out.2 (by omega)).1
    have f0 := hX3.cell 0
    have f1 := hX3.cell 1
    have f2 := hX3.cell 2
    have f3 := hX3.cell 3
    simp only [List.getElem?_toArray, List.getElem?_cons_zero, List.getElem?_cons_succ] at f0 f1 f2 f3
    have hS : w3.cell? ⟨p, 1, none⟩ = some v2 ∧ w3.cell? ⟨xb, 0, none⟩ = some (.int .i64 t.v) ∧ w3.cell? ⟨xb, 1, none⟩ = some (.int .u64 t.p) ∧ w3.cell? ⟨xb, 2, none⟩ = some (.int .u64 t.f) ∧ w3.cell? ⟨xb, 3, none⟩ = some (.int .i64 t.r) := ⟨hcq, f0, f1, f2, f3⟩
    clear hst3 hrow3 hrow3' hbq hX3 f0 f1 f2 f3
    refine hK _ _ hS ?_; clear hK K
    (try simp only [Act.put, List.setIfInBounds_toArray, List.set_cons_succ, List.set_cons_zero])
    refine wpE_take (i := 8) (oi := { dst := some 36, op := Go.Op.nilCheck (Go.Operand.tmp 28), type := 0, pos := "tlb.go:41", after := #[{ on := 0, ground := Go.Ground.data }, { on := 0, ground := Go.Ground.phase }, { on := 1, ground := Go.Ground.phase }, { on := 2, ground := Go.Ground.phase }, { on := 3, ground := Go.Ground.phase }, { on := 4, ground := Go.Ground.phase }, { on := 5, ground := Go.Ground.phase }, { on := 6, ground := Go.Ground.phase }, { on := 7, ground := Go.Ground.phase }], guard := none }) (v := ?_) rfl (by kernel_rfl) (fun _ _ _ h => h) (Or.inl ⟨by rfl, fun W hW => ?_⟩) hS ?_
    rotate_left
    · obtain ⟨hw1, hw2, hw3, hw4, hw5⟩ := hW; go_simp; (try go_bits); (try rw [if_pos (by omega)]); (try with_reducible rfl)
    (try simp only [Act.put, List.setIfInBounds_toArray, List.set_cons_succ, List.set_cons_zero])
    refine wpE_take (i := 9) (oi := { dst := some 37, op := Go.Op.fieldAddr 179 (Go.Operand.tmp 36) 1, type := 0, pos := "tlb.go:41", after := #[{ on := 8, ground := Go.Ground.data }, { on := 0, ground := Go.Ground.phase }, { on := 1, ground := Go.Ground.phase }, { on := 2, ground := Go.Ground.phase }, { on := 3, ground := Go.Ground.phase }, { on := 4, ground := Go.Ground.phase }, { on := 5, ground := Go.Ground.phase }, { on := 6, ground := Go.Ground.phase }, { on := 7, ground := Go.Ground.phase }], guard := none }) (v := ?_) rfl (by kernel_rfl) (fun _ _ _ h => h) (Or.inl ⟨by rfl, fun W hW => ?_⟩) hS ?_
    rotate_left
    · obtain ⟨hw1, hw2, hw3, hw4, hw5⟩ := hW; go_simp; (try go_bits); (try rw [if_pos (by omega)]); (try with_reducible rfl)
    (try simp only [Act.put, List.setIfInBounds_toArray, List.set_cons_succ, List.set_cons_zero])
    refine wpE_last (oi := { dst := none, op := Go.Op.store 79 (Go.Operand.tmp 37) (Go.Operand.tmp 35), type := 0, pos := "tlb.go:41", after := #[{ on := 9, ground := Go.Ground.data }, { on := 7, ground := Go.Ground.data }, { on := 7, ground := Go.Ground.chain }, { on := 0, ground := Go.Ground.phase }, { on := 1, ground := Go.Ground.phase }, { on := 2, ground := Go.Ground.phase }, { on := 3, ground := Go.Ground.phase }, { on := 4, ground := Go.Ground.phase }, { on := 5, ground := Go.Ground.phase }, { on := 6, ground := Go.Ground.phase }, { on := 7, ground := Go.Ground.phase }], guard := none }) rfl (by kernel_rfl) (by kernel_rfl) (by rfl) (fun K hK => ?_)
    go_simp; refine hK _ _ ?_; clear hK K
    clear hS
    go_wp2
    go_end0
    rw [H2.out.2.2]
    exact ⟨rfl, _, H2.out.1.trans H3.out.1, H3.out.2⟩
end
end Go.Proofs.YtonhlgfgbdiapaaGreat
