import Derived.Test.YtpodeclkgcgpgaaPref3
/- The document's pool: Release. -/
namespace Go.Proofs.Ytpodeclkgcgpgaa
set_option linter.unusedVariables false
open Go.RowKit
set_option maxRecDepth 100000

theorem int_slice (z : Int) (w : World) : (Instr.buildSlice 45 1 #[(0, .int .i64 z)]).run Try.prog w = .ok (.slice (some ⟨w.heap.size, 0, none⟩) 1 1) (w.alloc (.cells #[.int .i64 z] 3)) := by
  obtain ⟨ie, hi, hz, hs, hb⟩ := info_parts info_int
  refine run_buildSlice w _ _ 1 _ #[.int .i64 z] ie _ Try.underlying45 hi hz (by rw [hs]; omega) (by rw [hs]; omega) ?_
  rw [hs]; kernel_rfl
theorem Row.one {own : Nat → Nat} {d : Nat} (w : World) (z : Int) (ho : own w.heap.size = d) : Row own d (w.alloc (.cells #[.int .i64 z] 3)) (.slice (some ⟨w.heap.size, 0, none⟩) 1 1) [z] := by
  refine ⟨⟨rfl, Or.inr ⟨w.heap.size, 1, #[.int .i64 z], rfl, Nat.zero_le _, heap_alloc_new w _, by simp, by unfold maxLen; omega, rfl, rfl⟩⟩, fun g e => ?_⟩
  obtain rfl : w.heap.size = g := by simpa [Value.ownBlock] using e
  exact ho
/-- what a released frame waits for, the first j harts laid -/
def relL (j : Nat) : List Int := 63 :: (List.range j).map (fun i : Nat => (i : Int))
theorem relL_len (j : Nat) : (relL j).length = j + 1 := by simp [relL]
theorem relL_succ (j : Nat) : relL (j + 1) = relL j ++ [(j : Int)] := by simp [relL, List.range_succ]
/-- a row that one number was appended to -/
theorem Row.appended {own1 : Nat → Nat} {d : Nat} {wr w2 : World} {v1 v2 : Value} {l : List Int} {z : Int} (hrow : Row own1 d wr v1 l)
    (hown2 : w2.ownsRow 0 3 1 v2 (l.length + 1) (l.map (.int .i64) ++ [.int .i64 z])) (hg2 : (wr.drew.alloc (.cells #[.int .i64 z] 3)).grownBy w2 v1.ownBlock)
    (hob2 : v2.ownBlock = v1.ownBlock ∨ v2.ownBlock = some (wr.drew.alloc (.cells #[.int .i64 z] 3)).heap.size) :
    Step (· = d) own1 wr (ext own1 wr d) w2 ∧ Row (ext own1 wr d) d w2 v2 (l ++ [z]) := by
  have hvc := hrow.2
  have hU2 : Upd (fun b => own1 b = d) wr w2 := ((Upd.refl _ _).drew.alloc _).grown hg2 (fun g e => .inl (hvc g e))
  have hvg : ∀ g, v1.ownBlock = some g → g < wr.heap.size := by
    intro g e
    rcases hrow.1.2 with ⟨rfl, _⟩ | ⟨g', cap, cur, rfl, _, hg, _⟩
    · cases e
    · obtain rfl : g' = g := by simpa [Value.ownBlock] using e
      exact (show Blk wr g' 3 cur from hg).lt
  refine ⟨⟨hU2, fun b hb => ext_old _ _ _ hb⟩, by rw [List.length_append, List.map_append]; exact hown2, fun g e => ?_⟩
  rcases hob2 with h | h
  · rw [h] at e
    rw [ext_old _ _ _ (hvg g e)]; exact hvc g e
  · rw [h, World.size_alloc] at e
    cases e
    exact ext_new _ _ _ (Nat.le_succ _)
section
variable {own own' : Nat → Nat} {c pp rp qo qw n : Nat} {res harts : Int} {w w' : World} {s : PSt}
theorem PrIn.skip {ow : List Int} {vs : List Value} {ls : List (List Int)} {k : Nat} (h : PrIn own c w pp rp qo qw n res harts ow vs ls n) (hk : k < n) (hst : Step (· = 100 + k) own w own' w') : PrIn own' c w' pp rp qo qw n res harts ow vs ls k := by
  have hc := h.hc
  have hPk := h.but k hk
  have hb1 := hst.blk hPk.bp hPk.op (by omega)
  have hb2 := hst.blk hPk.bo hPk.oo (by omega)
  have hb3 := hst.blk hPk.bw hPk.oq (by omega)
  exact ⟨hb1.1, hb1.2, hb2.1, hb2.2, hb3.1, hb3.2, hPk.lo, hPk.lv, hPk.ll, hPk.hn, hPk.hc, fun a u l hx hu hl => ⟨(hPk.row a u l hx hu hl).1.step hst (by omega), (hPk.row a u l hx hu hl).2⟩⟩
set_option maxHeartbeats 1000000 in
theorem pr_Release {r hn : Nat} (h8 : hn ≤ 8) (h : PrAt own c w pp rp n r hn s.ow s.bt) (f : Int) :
    Calls Try.prog 32 #[.pointer (some ⟨pp, 0, none⟩), .int .i64 f] w fun e w' => e = .returned (.int .i64 (if relOk r s.ow f then 0 else 11)) ∧
      ∃ own', Step (fun x => x = c ∨ 100 ≤ x) own w own' w' ∧ PrAt own' c w' pp rp n r hn (relP r hn s f).ow (relP r hn s f).bt := by
  obtain ⟨qo, qw, vs, ls, hP, hA⟩ := h
  have hn1 := hP.hn
  have h3 := hP.c3
  have h1 := hP.c1
  have h2 := hP.c2
  have h4 := hP.c4
  have hlo := hP.lo
  have H0 := Lib.hid (And.intro hP hA)
  by_cases hf : thereP n f = true
  · obtain ⟨f0, f1⟩ := thereP_iff.1 hf
    obtain ⟨k, rfl⟩ := Int.eq_ofNat_of_zero_le f0
    obtain ⟨v, hv⟩ : ∃ v, s.ow[k]? = some v := ⟨_, List.getElem?_eq_getElem (by omega)⟩
    have hc := H0.out.1.cellO k
    have hz := H0.out.1.bo.frozen k
    rw [hv, Option.map_some] at hc
    have hR : relOk r s.ow (k : Int) = (decide ((r : Int) ≤ k) && (v != 0 && v != -2)) := by simp [relOk, hlo, hf, hv]
    have HV := Lib.hid hv
    clear hv
    by_cases hok : (r : Int) ≤ k ∧ ¬ v = 0 ∧ ¬ v = -2
    · obtain ⟨hr, hv0, hv2⟩ := hok
      have hR' : relOk r s.ow (k : Int) = true := by rw [hR]; simp [hv0, hv2]; omega
      have HRP := Lib.hid (show relP r hn s k = ⟨s.ow.set k (-2), s.bt.set k (allB hn), s.m, s.cnt⟩ from by simp [relP, hR'])
      rw [hR', if_pos rfl]
      have e0 : (v == 0) = false := by simpa using hv0
      have e2 : (v == -2) = false := by simpa using hv2
      have er : decide (k < r) = false := by simp; omega
      have en : decide (n ≤ k) = false := by simp; omega
      have hkn : k < n := by omega
      obtain ⟨u, hu⟩ : ∃ u, vs[k]? = some u := ⟨_, List.getElem?_eq_getElem (by rw [H0.out.1.lv]; omega)⟩
      have hq := (H0.out.1.cellW k).trans hu
      have hzq := H0.out.1.bw.frozen k
      have n1 : pp ≠ qo := H0.out.1.bp.ne_ H0.out.1.bo (by decide)
      have n2 : pp ≠ qw := H0.out.1.bp.ne_ H0.out.1.bw (by decide)
      have n3 : qo ≠ qw := H0.out.1.bo.ne_ H0.out.1.bw (by decide)
      have l1 := H0.out.1.bp.lt
      have l2 := H0.out.1.bo.lt
      have l3 := H0.out.1.bw.lt
      have n4 : pp ≠ w.heap.size := by omega
      have n5 : qo ≠ w.heap.size := by omega
      have n6 : qw ≠ w.heap.size := by omega
      have hc100 := H0.out.1.hc
      -- the start
      have hP1 := H0.out.1.setO k (-2)
      have hS1 := H0.out.1.stepO k (.int .i64 (-2))
      have hA2 : Step (fun _ => False) own (w.setCell ⟨qo, k, none⟩ (.int .i64 (-2))) (ext own w (100 + k)) ((w.setCell ⟨qo, k, none⟩ (.int .i64 (-2))).alloc (.cells #[.int .i64 63] 3)) := ⟨(Upd.refl _ _).alloc _, fun b hb => ext_old _ _ _ (by rwa [size_setCell] at hb)⟩
      have hP2 := hP1.step hA2 (fun h => h) (fun _ _ h => h)
      have hRow : Row (ext own w (100 + k)) (100 + k) ((w.setCell ⟨qo, k, none⟩ (.int .i64 (-2))).alloc (.cells #[.int .i64 63] 3)) (.slice (some ⟨w.heap.size, 0, none⟩) 1 1) [63] := by
        have := Row.one (own := ext own w (100 + k)) (d := 100 + k) (w.setCell ⟨qo, k, none⟩ (.int .i64 (-2))) 63 (ext_new _ _ _ (by rw [size_setCell]; omega))
        rwa [size_setCell] at this
      have hP3 := hP2.setW k (Or.inl rfl) _ [63] hRow (by simp)
      have hS3 := hP2.stepW k (.slice (some ⟨w.heap.size, 0, none⟩) 1 1)
      have hS : Step (fun x => x = c ∨ 100 ≤ x) own w _ _ := ((hS1.mono (C' := fun x => x = c ∨ 100 ≤ x) (fun _ h => Or.inl h)).trans (hA2.mono (fun _ h => h.elim))).trans (hS3.mono (fun _ h => Or.inl h))
      rw [World.setCell_alloc_past _ qw k _ (by rw [size_setCell]; exact l3)] at hS hP3
      have H1 := Lib.hid (And.intro hS hP3)
      clear hP1 hS1 hA2 hP2 hRow hP3 hS3 hS hP hA hR hR' hu
      obtain ⟨ie, hie, hiz, his, hib⟩ := info_parts info_int
      go_enter Try.func32, Try.ntmps32
      go_wp2
      go_loopw [5] (fun i wr => ∃ j : Nat, j ≤ hn ∧ i = .int .i64 (j : Int) ∧ Hid (∃ own' vs', Step (fun x => x = c ∨ 100 ≤ x) own w own' wr ∧ PrIn own' c wr pp rp qo qw n r hn (s.ow.set k (-2)) vs' (ls.set k (relL j)) n)) (fun i _ => hn - (intOf i).toNat)
      case atStart => exact ⟨0, by omega, rfl, _, _, H1.out⟩
      case round =>
        obtain ⟨j, hj, rfl, HR⟩ := hrel
        by_cases hlt : j < hn
        · have hlt' : (j : Int) < (hn : Int) := by omega
          obtain ⟨own1, vs1, hS, hP⟩ := HR.out
          have g2 := hP.c2
          have g4 := hP.c4
          obtain ⟨v1, hv1⟩ : ∃ v1, vs1[k]? = some v1 := ⟨_, List.getElem?_eq_getElem (by rw [hP.lv]; omega)⟩
          obtain ⟨hrow, _⟩ := hP.row k v1 (relL j) (by omega) hv1 (List.getElem?_set_self (by have := H0.out.1.ll; omega))
          have gq := (hP.cellW k).trans hv1
          have lq := hP.bw.lt
          have lp := hP.bp.lt
          have H2 := Lib.hid (And.intro hS (And.intro hP hrow))
          clear hS hP hrow HR H1
          go_wp2_with fail
          refine wpE_region (S := fun (W' : World) => W'.cell? ⟨pp, 4, none⟩ = some (.slice (some ⟨qw, 0, none⟩) n n) ∧ W'.cell? ⟨qw, k, none⟩ = some v1) (s := 16) (by kernel_rfl) ?_
          have hS : (fun (W' : World) => W'.cell? ⟨pp, 4, none⟩ = some (.slice (some ⟨qw, 0, none⟩) n n) ∧ W'.cell? ⟨qw, k, none⟩ = some v1) _ := ⟨g4, gq⟩
          refine wpE_take (i := 0) (oi := { dst := some 62, op := Go.Op.move (Go.Operand.tmp 0), type := 52, pos := "ref.go:71", after := #[], guard := none }) (v := ?_) rfl (by kernel_rfl) (fun _ _ _ h => h) (Or.inl ⟨by rfl, fun W hW => ?_⟩) hS ?_
          rotate_left
          · obtain ⟨hw4, hwk⟩ := hW; go_simp; (try go_bits); (try rw [if_pos (by omega)]); (try with_reducible rfl)
          (try simp only [Act.put, List.setIfInBounds_toArray, List.set_cons_succ, List.set_cons_zero])
          refine wpE_take (i := 1) (oi := { dst := some 63, op := Go.Op.nilCheck (Go.Operand.tmp 62), type := 0, pos := "ref.go:71", after := #[{ on := 0, ground := Go.Ground.data }], guard := none }) (v := ?_) rfl (by kernel_rfl) (fun _ _ _ h => h) (Or.inl ⟨by rfl, fun W hW => ?_⟩) hS ?_
          rotate_left
          · obtain ⟨hw4, hwk⟩ := hW; go_simp; (try go_bits); (try rw [if_pos (by omega)]); (try with_reducible rfl)
          (try simp only [Act.put, List.setIfInBounds_toArray, List.set_cons_succ, List.set_cons_zero])
          refine wpE_take (i := 2) (oi := { dst := some 64, op := Go.Op.fieldAddr 174 (Go.Operand.tmp 63) 4, type := 0, pos := "ref.go:71", after := #[{ on := 1, ground := Go.Ground.data }], guard := none }) (v := ?_) rfl (by kernel_rfl) (fun _ _ _ h => h) (Or.inl ⟨by rfl, fun W hW => ?_⟩) hS ?_
          rotate_left
          · obtain ⟨hw4, hwk⟩ := hW; go_simp; (try go_bits); (try rw [if_pos (by omega)]); (try with_reducible rfl)
          (try simp only [Act.put, List.setIfInBounds_toArray, List.set_cons_succ, List.set_cons_zero])
          refine wpE_take (i := 3) (oi := { dst := some 65, op := Go.Op.load 120 (Go.Operand.tmp 64), type := 120, pos := "ref.go:71", after := #[{ on := 2, ground := Go.Ground.data }], guard := none }) (v := ?_) rfl (by kernel_rfl) (fun _ _ _ h => h) (Or.inl ⟨by rfl, fun W hW => ?_⟩) hS ?_
          rotate_left
          · obtain ⟨hw4, hwk⟩ := hW; go_simp; (try go_bits); (try rw [if_pos (by omega)]); (try with_reducible rfl)
          (try simp only [Act.put, List.setIfInBounds_toArray, List.set_cons_succ, List.set_cons_zero])
          refine wpE_take (i := 4) (oi := { dst := some 66, op := Go.Op.move (Go.Operand.tmp 1), type := 3, pos := "ref.go:71", after := #[], guard := none }) (v := ?_) rfl (by kernel_rfl) (fun _ _ _ h => h) (Or.inl ⟨by rfl, fun W hW => ?_⟩) hS ?_
          rotate_left
          · obtain ⟨hw4, hwk⟩ := hW; go_simp; (try go_bits); (try rw [if_pos (by omega)]); (try with_reducible rfl)
          (try simp only [Act.put, List.setIfInBounds_toArray, List.set_cons_succ, List.set_cons_zero])
          refine wpE_take (i := 5) (oi := { dst := some 67, op := Go.Op.move (Go.Operand.tmp 0), type := 52, pos := "ref.go:71", after := #[], guard := none }) (v := ?_) rfl (by kernel_rfl) (fun _ _ _ h => h) (Or.inl ⟨by rfl, fun W hW => ?_⟩) hS ?_
          rotate_left
          · obtain ⟨hw4, hwk⟩ := hW; go_simp; (try go_bits); (try rw [if_pos (by omega)]); (try with_reducible rfl)
          (try simp only [Act.put, List.setIfInBounds_toArray, List.set_cons_succ, List.set_cons_zero])
          refine wpE_take (i := 6) (oi := { dst := some 68, op := Go.Op.nilCheck (Go.Operand.tmp 67), type := 0, pos := "ref.go:71", after := #[{ on := 5, ground := Go.Ground.data }], guard := none }) (v := ?_) rfl (by kernel_rfl) (fun _ _ _ h => h) (Or.inl ⟨by rfl, fun W hW => ?_⟩) hS ?_
          rotate_left
          · obtain ⟨hw4, hwk⟩ := hW; go_simp; (try go_bits); (try rw [if_pos (by omega)]); (try with_reducible rfl)
          (try simp only [Act.put, List.setIfInBounds_toArray, List.set_cons_succ, List.set_cons_zero])
          refine wpE_take (i := 7) (oi := { dst := some 69, op := Go.Op.fieldAddr 174 (Go.Operand.tmp 68) 4, type := 0, pos := "ref.go:71", after := #[{ on := 6, ground := Go.Ground.data }], guard := none }) (v := ?_) rfl (by kernel_rfl) (fun _ _ _ h => h) (Or.inl ⟨by rfl, fun W hW => ?_⟩) hS ?_
          rotate_left
          · obtain ⟨hw4, hwk⟩ := hW; go_simp; (try go_bits); (try rw [if_pos (by omega)]); (try with_reducible rfl)
          (try simp only [Act.put, List.setIfInBounds_toArray, List.set_cons_succ, List.set_cons_zero])
          refine wpE_take (i := 8) (oi := { dst := some 70, op := Go.Op.load 120 (Go.Operand.tmp 69), type := 120, pos := "ref.go:71", after := #[{ on := 7, ground := Go.Ground.data }], guard := none }) (v := ?_) rfl (by kernel_rfl) (fun _ _ _ h => h) (Or.inl ⟨by rfl, fun W hW => ?_⟩) hS ?_
          rotate_left
          · obtain ⟨hw4, hwk⟩ := hW; go_simp; (try go_bits); (try rw [if_pos (by omega)]); (try with_reducible rfl)
          (try simp only [Act.put, List.setIfInBounds_toArray, List.set_cons_succ, List.set_cons_zero])
          refine wpE_take (i := 9) (oi := { dst := some 71, op := Go.Op.move (Go.Operand.tmp 1), type := 3, pos := "ref.go:71", after := #[], guard := none }) (v := ?_) rfl (by kernel_rfl) (fun _ _ _ h => h) (Or.inl ⟨by rfl, fun W hW => ?_⟩) hS ?_
          rotate_left
          · obtain ⟨hw4, hwk⟩ := hW; go_simp; (try go_bits); (try rw [if_pos (by omega)]); (try with_reducible rfl)
          (try simp only [Act.put, List.setIfInBounds_toArray, List.set_cons_succ, List.set_cons_zero])
          refine wpE_take (i := 10) (oi := { dst := some 72, op := Go.Op.indexAddr 120 (Go.Operand.tmp 70) (Go.Operand.tmp 71), type := 0, pos := "ref.go:71", after := #[{ on := 8, ground := Go.Ground.data }, { on := 9, ground := Go.Ground.data }], guard := none }) (v := ?_) rfl (by kernel_rfl) (fun _ _ _ h => h) (Or.inl ⟨by rfl, fun W hW => ?_⟩) hS ?_
          rotate_left
          · obtain ⟨hw4, hwk⟩ := hW; go_simp; (try go_bits); (try rw [if_pos (by omega)]); (try with_reducible rfl)
          (try simp only [Act.put, List.setIfInBounds_toArray, List.set_cons_succ, List.set_cons_zero])
          refine wpE_take (i := 11) (oi := { dst := some 73, op := Go.Op.load 45 (Go.Operand.tmp 72), type := 45, pos := "ref.go:71", after := #[{ on := 10, ground := Go.Ground.data }], guard := none }) (v := ?_) rfl (by kernel_rfl) (fun _ _ _ h => h) (Or.inl ⟨by rfl, fun W hW => ?_⟩) hS ?_
          rotate_left
          · obtain ⟨hw4, hwk⟩ := hW; go_simp; (try go_bits); (try rw [if_pos (by omega)]); (try with_reducible rfl)
          (try simp only [Act.put, List.setIfInBounds_toArray, List.set_cons_succ, List.set_cons_zero])
          refine wpE_take (i := 12) (oi := { dst := some 74, op := Go.Op.move (Go.Operand.tmp 5), type := 3, pos := "ref.go:71", after := #[], guard := none }) (v := ?_) rfl (by kernel_rfl) (fun _ _ _ h => h) (Or.inl ⟨by rfl, fun W hW => ?_⟩) hS ?_
          rotate_left
          · obtain ⟨hw4, hwk⟩ := hW; go_simp; (try go_bits); (try rw [if_pos (by omega)]); (try with_reducible rfl)
          (try simp only [Act.put, List.setIfInBounds_toArray, List.set_cons_succ, List.set_cons_zero])
          refine wpE_only (i := 13) (oi := { dst := some 75, op := Go.Op.buildSlice 45 1 #[(0, Go.Operand.tmp 74)], type := 45, pos := "ref.go:71", after := #[{ on := 12, ground := Go.Ground.data }], guard := none }) rfl (by kernel_rfl) (by rfl) (fun K hK => ?_)
          refine wp_run (exec_buildSlice1 rfl (.int .i64 (j : Int)) rfl (int_slice _ _)) ?_
          obtain ⟨s1, s2⟩ := hS
          have hS := And.intro (show (wr.drew.alloc (.cells #[.int .i64 (j : Int)] 3)).cell? ⟨pp, 4, none⟩ = some (.slice (some ⟨qw, 0, none⟩) n n) from (World.cell?_alloc_lt _ _ _ (by exact lp)).trans s1) (show (wr.drew.alloc (.cells #[.int .i64 (j : Int)] 3)).cell? ⟨qw, k, none⟩ = some v1 from (World.cell?_alloc_lt _ _ _ (by exact lq)).trans s2)
          refine hK _ _ hS ?_; clear hK K
          (try simp only [Act.put, List.setIfInBounds_toArray, List.set_cons_succ, List.set_cons_zero])
          refine wpE_only (i := 14) (oi := { dst := some 76, op := Go.Op.call { callee := Go.Callee.builtin Go.Builtin.append, args := #[Go.Operand.tmp 73, Go.Operand.tmp 75], argTypes := #[45, 45] }, type := 45, pos := "ref.go:71", after := #[{ on := 11, ground := Go.Ground.data }, { on := 13, ground := Go.Ground.data }], guard := none }) rfl (by kernel_rfl) (by rfl) (fun K hK => ?_)
          have hst : Step (fun _ => False) own1 wr own1 (wr.drew.alloc (.cells #[.int .i64 (j : Int)] 3)) := ⟨(Upd.refl _ _).drew.alloc _, fun _ _ => rfl⟩
          have hrow2 := H2.out.2.2.step hst (fun h => h)
          have hlen : (wr.drew.alloc (.cells #[.int .i64 (j : Int)] 3)).heap.size = wr.heap.size + 1 := World.size_alloc ..
          refine wp_append_any _ (.tmp 73) (.tmp 75) _ rfl 0 3 ie _ 1 8 Try.underlying45 hie hiz his hib rfl (by omega) v1 _ _ rfl hrow2.1 (wr.heap.size + 1) (some ⟨wr.heap.size, 0, none⟩) 1 1 [.int .i64 (j : Int)] rfl ⟨rfl, fun _ => ⟨_, rfl, Nat.lt_succ_self _, cell_one_new _ _ _⟩⟩ (by simp [Value.oneCell']) (by rw [relL_len]; unfold maxLen; omega) (by rw [relL_len]; omega) (by omega) ?_
          intro v2 w2 hown2 hg2 hob2
          obtain ⟨hst2, hrow3⟩ := H2.out.2.2.appended hown2 hg2 hob2
          rw [← relL_succ] at hrow3
          have hP2 := H2.out.2.1.skip (by omega) hst2
          obtain ⟨A2, cap2, rfl, _⟩ := hrow3.form
          rw [relL_len]
          have hz2 := hP2.bw.frozen k
          have hq2 := (hP2.cellW k).trans hv1
          have hS : w2.cell? ⟨pp, 4, none⟩ = some (.slice (some ⟨qw, 0, none⟩) n n) ∧ w2.cell? ⟨qw, k, none⟩ = some v1 := ⟨hP2.c4, hq2⟩
          have H3 := Lib.hid (And.intro (H2.out.1.trans (hst2.mono (fun x h => Or.inr (by omega)))) (And.intro hP2 hrow3))
          clear hst hrow2 hown2 hg2 hob2 hst2 hrow3 hP2 s1 s2
          refine hK _ _ hS ?_; clear hK K
          (try simp only [Act.put, List.setIfInBounds_toArray, List.set_cons_succ, List.set_cons_zero])
          refine wpE_take (i := 15) (oi := { dst := some 77, op := Go.Op.indexAddr 120 (Go.Operand.tmp 65) (Go.Operand.tmp 66), type := 0, pos := "ref.go:71", after := #[{ on := 3, ground := Go.Ground.data }, { on := 4, ground := Go.Ground.data }, { on := 0, ground := Go.Ground.phase }, { on := 1, ground := Go.Ground.phase }, { on := 2, ground := Go.Ground.phase }, { on := 3, ground := Go.Ground.phase }, { on := 4, ground := Go.Ground.phase }, { on := 5, ground := Go.Ground.phase }, { on := 6, ground := Go.Ground.phase }, { on := 7, ground := Go.Ground.phase }, { on := 8, ground := Go.Ground.phase }, { on := 9, ground := Go.Ground.phase }, { on := 10, ground := Go.Ground.phase }, { on := 11, ground := Go.Ground.phase }, { on := 12, ground := Go.Ground.phase }, { on := 13, ground := Go.Ground.phase }, { on := 14, ground := Go.Ground.phase }], guard := none }) (v := ?_) rfl (by kernel_rfl) (fun _ _ _ h => h) (Or.inl ⟨by rfl, fun W hW => ?_⟩) hS ?_
          rotate_left
          · obtain ⟨hw4, hwk⟩ := hW; go_simp; (try go_bits); (try rw [if_pos (by omega)]); (try with_reducible rfl)
          (try simp only [Act.put, List.setIfInBounds_toArray, List.set_cons_succ, List.set_cons_zero])
          refine wpE_last (oi := { dst := none, op := Go.Op.store 45 (Go.Operand.tmp 77) (Go.Operand.tmp 76), type := 0, pos := "ref.go:71", after := #[{ on := 15, ground := Go.Ground.data }, { on := 14, ground := Go.Ground.data }, { on := 14, ground := Go.Ground.chain }, { on := 0, ground := Go.Ground.phase }, { on := 1, ground := Go.Ground.phase }, { on := 2, ground := Go.Ground.phase }, { on := 3, ground := Go.Ground.phase }, { on := 4, ground := Go.Ground.phase }, { on := 5, ground := Go.Ground.phase }, { on := 6, ground := Go.Ground.phase }, { on := 7, ground := Go.Ground.phase }, { on := 8, ground := Go.Ground.phase }, { on := 9, ground := Go.Ground.phase }, { on := 10, ground := Go.Ground.phase }, { on := 11, ground := Go.Ground.phase }, { on := 12, ground := Go.Ground.phase }, { on := 13, ground := Go.Ground.phase }, { on := 14, ground := Go.Ground.phase }], guard := none }) rfl (by kernel_rfl) (by kernel_rfl) (by rfl) (fun K hK => ?_)
          go_simp; (try go_bits); refine hK _ _ ?_; clear hK K
          clear hS hv1
          go_wp2
          rw [relL_len] at H3
          have hSw := H3.out.2.1.stepW k (.slice A2 (j + 1 + 1) cap2)
          have hPw := H3.out.2.1.setW k (Or.inr rfl) _ _ H3.out.2.2 (by rw [relL_len]; omega)
          rw [List.set_set] at hPw
          go_roundw
          case rel => exact ⟨j + 1, by omega, by go_num, _, _, H3.out.1.trans (hSw.mono (fun x h => Or.inl h)), hPw⟩
          case measure => simp [intOf]; omega
        · obtain rfl : j = hn := by omega
          obtain ⟨own1, vs1, hS, hP⟩ := HR.out
          have g2 := hP.c2
          have H2 := Lib.hid (And.intro hS hP)
          clear hS hP HR H1
          go_wp2
          go_ret
          rw [HRP.out]
          exact ⟨rfl, own1, H2.out.1, qo, qw, _, _, H2.out.2, H0.out.2.set_ (fun _ => RelB.all h8) (fun h => absurd rfl h)⟩
    · have hR' : relOk r s.ow (k : Int) = false := by rw [hR]; simp; omega
      have HRP := Lib.hid (show relP r hn s k = s from by simp [relP, hR'])
      rw [hR', if_neg (by decide)]
      clear hR hR' hP hA
      have hcs : (k : Int) < r ∨ ((r : Int) ≤ k ∧ v = 0) ∨ ((r : Int) ≤ k ∧ v = -2) := by omega
      rcases hcs with hc1 | ⟨hc1, rfl⟩ | ⟨hc1, rfl⟩
      all_goals
        go_enter Try.func32, Try.ntmps32
        go_wp2
        go_ret
        rw [HRP.out]
        exact ⟨rfl, own, Step.refl _ _ _, _, _, _, _, H0.out⟩
  · have hf' : ¬ (0 ≤ f ∧ f < n) := fun h => hf (thereP_iff.2 h)
    have hf : thereP n f = false := by simpa using hf
    have hR' : relOk r s.ow f = false := by simp [relOk, hlo, hf]
    have HRP := Lib.hid (show relP r hn s f = s from by simp [relP, hR'])
    rw [hR', if_neg (by decide)]
    clear hP hA
    have hcs : f < (r : Int) ∨ (¬ f < (r : Int) ∧ (n : Int) ≤ f) := by omega
    rcases hcs with hc1 | ⟨hc1, hc2⟩
    all_goals
      go_enter Try.func32, Try.ntmps32
      go_wp2
      go_ret
      rw [HRP.out]
      exact ⟨rfl, own, Step.refl _ _ _, _, _, _, _, H0.out⟩
end
end Go.Proofs.Ytpodeclkgcgpgaa
