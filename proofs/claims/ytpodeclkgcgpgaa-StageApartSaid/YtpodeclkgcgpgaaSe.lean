import Derived.Test.YtpodeclkgcgpgaaSc
/- StageApart's walk. -/
namespace Go.Proofs.Ytpodeclkgcgpgaa
set_option linter.unusedVariables false
set_option linter.unusedSimpArgs false
open Go.RowKit
set_option maxRecDepth 100000

theorem upd_end' {own : Nat → Nat} {w w' : World} (h : Step (fun x => x ≠ 0) (fun _ => 0) w own w') : Upd (fun _ => False) w w' := h.upd.mono (fun i hi h => h rfl)
theorem ownB_at (ba bb : Bool) (k : Nat) (hk : k < 16) : (ownerP (owB ba bb) (k : Int) = 1 ∧ qA k) ∨ ((ownerP (owB ba bb) (k : Int) == 1) = false ∧ ¬ qA k) := by
  have h : ∀ ba bb : Bool, ∀ k : Nat, k < 16 → (ownerP (owB ba bb) (k : Int) = 1 ∧ (k = 3 ∨ k = 5 ∨ k = 7)) ∨ ((ownerP (owB ba bb) (k : Int) == 1) = false ∧ ¬ (k = 3 ∨ k = 5 ∨ k = 7)) := by decide +kernel
  exact h ba bb k hk
theorem ownB_b (ba bb : Bool) (k : Nat) (hk : qB k) : ownerP (owB ba bb) (k : Int) = 2 := by
  have h : ∀ ba bb : Bool, ∀ k : Nat, k < 16 → (k = 4 ∨ k = 6 ∨ k = 8) → ownerP (owB ba bb) (k : Int) = 2 := by decide +kernel
  exact h ba bb k (q_bd.2 hk).2 hk
theorem pool_Owner' {own : Nat → Nat} {c pp rp n : Nat} {res harts : Int} {ow bt : List Int} {w : World} (h : PoolAt own c w pp rp n res harts ow bt) (f a : Int) (ha : a = f) :
    Calls Try.prog 24 #[.pointer (some ⟨pp, 0, none⟩), .int .i64 a] w fun e w' => e = .returned (.int .i64 (ownerP ow f)) ∧ w = w' := by subst ha; exact pool_Owner h a
set_option maxHeartbeats 8000000 in
theorem apart_calls (A B : Option Addr) (capA capB : Nat) (mi th : List Int) (at' v : Int) (w : World)
    (hra : Reads w w.heap.size 1 A mi.length (mi.map (.int .i64))) (hma : mi.length ≤ 9223372036854775807) (hwa : ∀ z ∈ mi, wfI z)
    (hrb : Reads w w.heap.size 1 B th.length (th.map (.int .i64))) (hmb : th.length ≤ 9223372036854775807) (hwb : ∀ z ∈ th, wfI z)
    (hat : wfI at') (hv : wfU v) :
    Calls Try.prog 15 #[.slice A mi.length capA, .slice B th.length capB, .int .i64 at', .int .u64 v] w fun e w' => e = .returned (.bool true) ∧ Upd (fun _ => False) w w' := by
  have HXA := Lib.hid (And.intro hra hwa)
  have HXB := Lib.hid (And.intro hrb hwb)
  obtain ⟨ha0, ha1⟩ := hat
  have HPl := Lib.hid (fun w => place_calls at' 512 w ha0 ha1 (by omega) (by omega))
  obtain ⟨at8, hat8⟩ : ∃ r : Nat, at' % 512 = (r : Int) := ⟨(at' % 512).toNat, by omega⟩
  have hat5 : at8 < 512 := by omega
  rw [hat8] at HPl
  have HV := Lib.hid (And.intro hv hat5)
  obtain ⟨ie, hie, hiz, his, hib⟩ := info_parts info_int
  have HI := Lib.hid (And.intro hie (And.intro hiz (And.intro his hib)))
  clear hra hwa hrb hwb ha0 ha1 hat8 hv hat5 hie hiz his hib
  go_enter Try.func15, Try.ntmps15
  go_wp2_with fail
  refine (law10_spaces w).mono ?_
  rintro e w1 ⟨sa, sb, pp, p1, p2, own1, rfl, hS1, hG1, hB1⟩
  have hst : Step (fun _ => False) own1 w1 (ext own1 w1 0) (w1.alloc (.cells #[.pointer (some ⟨p1, 0, none⟩), .pointer (some ⟨p2, 0, none⟩)] 27)) := ⟨(Upd.refl _ _).alloc _, fun b hb => ext_old _ _ _ hb⟩
  have hbT := Blk.new w1 27 #[.pointer (some ⟨p1, 0, none⟩), .pointer (some ⟨p2, 0, none⟩)]
  have hoT : ext own1 w1 0 w1.heap.size = 0 := ext_new _ _ _ (Nat.le_refl _)
  have hsz1 : (w1.alloc (.cells #[.pointer (some ⟨p1, 0, none⟩), .pointer (some ⟨p2, 0, none⟩)] 27)).heap.size = w1.heap.size + 1 := World.size_alloc _ _
  obtain ⟨wA, hwA⟩ : ∃ wA, w1.alloc (.cells #[.pointer (some ⟨p1, 0, none⟩), .pointer (some ⟨p2, 0, none⟩)] 27) = wA := ⟨_, rfl⟩
  rw [hwA] at hst hbT hsz1
  have hst2 : Step (fun _ => False) (ext own1 w1 0) wA (ext (ext own1 w1 0) wA 22) (wA.alloc (.cells #[.slice none 0 0, .slice none 0 0] 132)) := ⟨(Upd.refl _ _).alloc _, fun b hb => ext_old _ _ _ hb⟩
  have hbO := Blk.new wA 132 #[.slice none 0 0, .slice none 0 0]
  have hoO : ext (ext own1 w1 0) wA 22 wA.heap.size = 22 := ext_new _ _ _ (Nat.le_refl _)
  rw [hsz1] at hbO hoO
  obtain ⟨hbT2, hoT2⟩ := hst2.blk hbT hoT (fun h => h)
  have hst3 := hst.trans hst2
  have H1 := Lib.hid (And.intro (AW.mk (lA := rowA 0) (lB := rowB 0) (hS1.trans (hst3.mono (fun _ h => h.elim))) hbT2 hoT2 hbO hoO (Row.nil _ _ _) (Row.nil _ _ _)) (And.intro (hG1.step hst3 (by simp)) (hB1.step hst3 (fun h => h) (fun h => h))))
  subst hwA
  clear hS1 hG1 hB1 hst hbT hoT hsz1 hst2 hbO hoO hbT2 hoT2 hst3
  go_wp2
  generalize w1.heap.size = tb at *
  generalize (w1.alloc (.cells #[.pointer (some ⟨p1, 0, none⟩), .pointer (some ⟨p2, 0, none⟩)] 27)).alloc (.cells #[.slice none 0 0, .slice none 0 0] 132) = w2 at *
  go_loopw [15] (fun i wr => ∃ (k : Nat), k ≤ 3 ∧ i = .int .i64 (k : Int) ∧ Hid (∃ own' v0 v1, AW w p1 p2 tb (tb + 1) own' wr v0 v1 (rowA k) (rowB k) ∧ PM own' 3 1 wr pp p1 0 16 1 1 ⟨oT k, s16.bt, s16.m, s16.cnt⟩ ∧ SpAt own' wr sa p1 pp 1 [1] ∧ SpAs own' wr sb p1 pp 2 [2])) (fun i _ => 3 - (intOf i).toNat)
  case atStart => exact ⟨0, by omega, rfl, _, _, _, H1.out.1, H1.out.2.1.1, H1.out.2.1.2, H1.out.2.2⟩
  case round =>
    obtain ⟨k, hk, rfl, HR⟩ := hrel
    clear H1
    by_cases hlt : k < 3
    · obtain ⟨own2, v0, v1, hW, hP, hA, hB⟩ := HR.out
      obtain ⟨ht1, ht2⟩ := oT_take k hlt
      have hL := And.intro (rowA_succ k hlt) (rowB_succ k hlt)
      obtain ⟨f, hf⟩ : ∃ f : Int, ((3 + 2 * k : Nat) : Int) = f := ⟨_, rfl⟩
      obtain ⟨g, hg⟩ : ∃ g : Int, ((4 + 2 * k : Nat) : Int) = g := ⟨_, rfl⟩
      rw [hf] at ht1
      rw [hg] at ht2
      rw [hf, hg] at hL
      have HL := Lib.hid hL
      clear hf hg hL
      have HT1 := Lib.hid (pm_Take hP 1 _ _ ht1)
      have HT2 := Lib.hid ht2
      have H2 := Lib.hid (And.intro hW (And.intro hA hB))
      clear hW hP hA hB ht1 ht2 HR
      have hlt' : (k : Int) < 3 := by omega
      go_wp2_with fail
      refine HT1.out.mono ?_; rintro e w3 ⟨rfl, hS3, hP3⟩
      have HT2b := Lib.hid (pm_Take hP3 2 _ _ HT2.out)
      have H3 := Lib.hid (And.intro (H2.out.1.step hS3 (by omega)) (And.intro (H2.out.2.1.step hS3 (by omega) (by omega)) (H2.out.2.2.step hS3 (by omega) (by omega))))
      clear hS3 hP3 HT1 HT2 H2
      go_wp2_with fail
      refine HT2b.out.mono ?_; rintro e w4 ⟨rfl, hS4, hP4⟩
      have h4 := H3.out.1.step hS4 (by omega)
      have c0 : w4.cell? ⟨tb + 1, 0, none⟩ = some v0 := h4.bo.cell 0
      have z0 := h4.bo.frozen 0
      have l0 := h4.bo.lt
      have H4 := Lib.hid (And.intro h4 (And.intro hP4 (And.intro (H3.out.2.1.step hS4 (by omega) (by omega)) (H3.out.2.2.step hS4 (by omega) (by omega)))))
      clear hS4 hP4 HT2b H3 h4
      go_wp2_with ((with_reducible show wpList _ _ _ ((⟨some 66, _, _, _, _, _⟩ : Oper) :: _) _ _); refine wpList_append_any _ rfl (.tmp 63) (.tmp 65) _ rfl 0 3 ie _ 1 8 Try.underlying45 HI.out.1 HI.out.2.1 HI.out.2.2.1 HI.out.2.2.2 rfl (by omega) v0 _ _ rfl (H4.out.1.r0.step (step_alloc own2 w4 (.cells #[.int .i64 f] 3)) (fun h => h)).1 (w4.heap.size + 1) (some ⟨w4.heap.size, 0, none⟩) 1 1 [.int .i64 f] rfl ⟨rfl, fun _ => ⟨_, rfl, Nat.lt_succ_self _, cell_one_new _ _ _⟩⟩ (by simp [Value.oneCell']) (by unfold maxLen; have := HL.out.1.2; omega) (by have := HL.out.1.2; omega) (by omega) ?_)
      intro v2 w5 hown5 hg5 hob5
      obtain ⟨hst5, hrow5⟩ := H4.out.1.r0.appendedU ((Upd.refl (fun _ => False) w4).alloc (.cells #[.int .i64 f] 3)) hown5 hg5 (by rw [World.size_alloc]; exact hob5)
      rw [HL.out.1.1] at hrow5
      obtain ⟨A2, cap2, hv2, _⟩ := hrow5.form
      obtain ⟨hst6, hW6⟩ := H4.out.1.app0 hst5 hrow5
      have x0 : w5.cell? ⟨tb + 1, 0, none⟩ = some v0 := (hst5.blk H4.out.1.bo H4.out.1.oo (by omega)).1.cell 0
      have y0 := (hst5.blk H4.out.1.bo H4.out.1.oo (by omega)).1.frozen 0
      have y1 := (hst5.blk H4.out.1.bo H4.out.1.oo (by omega)).1.lt
      have c1 : (w5.setCell ⟨tb + 1, 0, none⟩ v2).cell? ⟨tb + 1, 1, none⟩ = some v1 := hW6.bo.cell 1
      have z1 := hW6.bo.frozen 1
      have l1 := hW6.bo.lt
      have H6 := Lib.hid (And.intro hW6 (And.intro (show PM _ 3 1 _ pp p1 0 16 1 1 ⟨oT (k + 1), s16.bt, s16.m, s16.cnt⟩ from ⟨H4.out.2.1.1.step hst6 (by omega), H4.out.2.1.2.step hst6 (by omega)⟩) (And.intro (H4.out.2.2.1.step hst6 (by omega) (by omega)) (H4.out.2.2.2.step hst6 (by omega) (by omega)))))
      subst hv2
      clear hown5 hg5 hob5 hst5 hrow5 hst6 hW6 H4 c0 z0 l0
      have HQ := Lib.hid (H6.out.1.r1.step (step_alloc _ (w5.setCell ⟨tb + 1, 0, none⟩ (.slice A2 (rowA (k + 1)).length cap2)) (.cells #[.int .i64 g] 3)) (fun h => h)).1
      have hrd : Reads ((w5.setCell ⟨tb + 1, 0, none⟩ (.slice A2 (rowA (k + 1)).length cap2)).alloc (.cells #[.int .i64 g] 3)) ((w5.setCell ⟨tb + 1, 0, none⟩ (.slice A2 (rowA (k + 1)).length cap2)).heap.size + 1) 1 (some ⟨(w5.setCell ⟨tb + 1, 0, none⟩ (.slice A2 (rowA (k + 1)).length cap2)).heap.size, 0, none⟩) 1 [.int .i64 g] := ⟨rfl, fun _ => ⟨_, rfl, Nat.lt_succ_self _, cell_one_new _ _ _⟩⟩
      rw [size_setCell] at hrd
      have HRd := Lib.hid hrd
      clear hrd
      go_wp2_with ((with_reducible show wpList _ _ _ ((⟨some 72, _, _, _, _, _⟩ : Oper) :: _) _ _); refine wpList_append_any _ rfl (.tmp 69) (.tmp 71) _ rfl 0 3 ie _ 1 8 Try.underlying45 HI.out.1 HI.out.2.1 HI.out.2.2.1 HI.out.2.2.2 rfl (by omega) v1 _ _ rfl HQ.out (w5.heap.size + 1) (some ⟨w5.heap.size, 0, none⟩) 1 1 [.int .i64 g] rfl HRd.out (by simp [Value.oneCell']) (by unfold maxLen; have := HL.out.2.2; omega) (by have := HL.out.2.2; omega) (by omega) ?_)
      intro v7 w7 hown7 hg7 hob7
      obtain ⟨hst7, hrow7⟩ := H6.out.1.r1.appendedU ((Upd.refl (fun _ => False) (w5.setCell ⟨tb + 1, 0, none⟩ (.slice A2 (rowA (k + 1)).length cap2))).alloc (.cells #[.int .i64 g] 3)) hown7 hg7 (by rw [World.size_alloc, size_setCell]; exact hob7)
      rw [HL.out.2.1] at hrow7
      obtain ⟨A7, cap7, hv7, _⟩ := hrow7.form
      obtain ⟨hst8, hW8⟩ := H6.out.1.app1 hst7 hrow7
      have x1 : w7.cell? ⟨tb + 1, 1, none⟩ = some v1 := (hst7.blk H6.out.1.bo H6.out.1.oo (by omega)).1.cell 1
      have yy := (hst7.blk H6.out.1.bo H6.out.1.oo (by omega)).1.frozen 1
      have y2 := (hst7.blk H6.out.1.bo H6.out.1.oo (by omega)).1.lt
      have H8 := Lib.hid (And.intro hW8 (And.intro (show PM _ 3 1 _ pp p1 0 16 1 1 ⟨oT (k + 1), s16.bt, s16.m, s16.cnt⟩ from ⟨H6.out.2.1.1.step hst8 (by omega), H6.out.2.1.2.step hst8 (by omega)⟩) (And.intro (H6.out.2.2.1.step hst8 (by omega) (by omega)) (H6.out.2.2.2.step hst8 (by omega) (by omega)))))
      subst hv7
      clear hown7 hg7 hob7 hst7 hrow7 hst8 hW8 H6 c1 z1 l1 x0 y0 y1 HL
      go_wp2
      exact ⟨⟨k + 1, by omega, by go_num, _, _, _, H8.out⟩, by simp [intOf]; omega⟩
    · obtain rfl : k = 3 := by omega
      obtain ⟨own2, v0, v1, hW, hP, hA, hB⟩ := HR.out
      have hz : ∀ t i, en s16.m t i = 0 := fun t i => by rw [s16_m]; exact en_zero _ _
      have hAI : AI own2 wr sa sb pp p1 false false (fun _ => 0) (fun _ => 0) s16.m := ⟨⟨_, _, hP⟩, hA, hB, ⟨fun _ _ h => absurd rfl h, hz _ _, fun _ _ => rfl⟩, ⟨fun _ _ h => absurd rfl h, hz _ _, fun _ _ => rfl⟩⟩
      have H2 := Lib.hid (And.intro hW hAI)
      clear hW hP hA hB hz hAI HR HI
      go_upto_block 2 with fail
      go_cut [] (fun wx => Hid (∃ own' ba PA m, AW w p1 p2 tb (tb + 1) own' wx v0 v1 (rowA 3) (rowB 3) ∧ AI own' wx sa sb pp p1 ba false PA (fun _ => 0) m))
      case first =>
        go_wp2_with fail
        go_loopw [20] (fun i wr => ∃ (k : Nat), k ≤ 3 ∧ k ≤ mi.length ∧ i = .int .i64 (k : Int) ∧ Hid (∃ own' ba PA m, AW w p1 p2 tb (tb + 1) own' wr v0 v1 (rowA 3) (rowB 3) ∧ AI own' wr sa sb pp p1 ba false PA (fun _ => 0) m)) (fun i _ => 3 - (intOf i).toNat)
        case atStart => exact ⟨0, by omega, by omega, rfl, own2, false, _, _, H2.out⟩
        case round =>
          rename World => wo
          obtain ⟨k, hk3, hkm, rfl, HR⟩ := hrel
          clear H2
          by_cases hlt : k < mi.length ∧ k < 3
          · obtain ⟨hlm, hl3⟩ := hlt
            obtain ⟨own3, ba, PA, m, hW, hI⟩ := HR.out
            have hlm' : (k : Int) < (mi.length : Int) := by omega
            have hl3' : (k : Int) < 3 := by omega
            obtain ⟨ab, ao, rfl, hab, hac⟩ := HXA.out.1.start (by omega) (by omega)
            have hget : mi[k]? = some mi[k] := List.getElem?_eq_getElem hlm
            have hwf := HXA.out.2 _ (List.getElem_mem hlm)
            have c0 := (hW.st.upd.cell (p := ⟨ab, ao + k, none⟩) hab (fun h => h rfl)).trans (hac k _ (by rw [List.getElem?_map, hget]; rfl))
            obtain ⟨A0, cap0, hv0, hf0⟩ := hW.r0.form
            obtain ⟨g0, rfl, hgo, hgl, hgc⟩ := hf0 (by decide)
            obtain ⟨fr, hfr, hqf⟩ := rowA_at k hl3
            have c2 := hgc k _ hfr
            have c1 : wo.cell? ⟨tb + 1, 0, none⟩ = some v0 := hW.bo.cell 0
            rw [show (rowA 3).length = 3 from rfl] at hv0
            subst hv0
            generalize mi[k] = x at *
            obtain ⟨hx0, hx1⟩ := hwf
            have HPx := Lib.hid (fun w => place_calls x 4 w hx0 hx1 (by omega) (by omega))
            obtain ⟨r, hr⟩ : ∃ r : Nat, x % 4 = (r : Int) := ⟨(x % 4).toNat, by omega⟩
            have hr4 : r < 4 := by omega
            rw [hr] at HPx
            have H3 := Lib.hid (And.intro (hW.step (C := fun _ => False) ((Step.refl _ _ _).drew) (by simp)) (hI.step (C := fun _ => False) ((Step.refl _ _ _).drew) (by simp)))
            have HMp := Lib.hid (fun a ha => ai_mapA' H3.out.2 r fr hr4 hqf a ha)
            clear hW hI hget hac hf0 hgc hfr hqf hr HR hgl hgo
            go_wp2_with fail
            refine wpE_region (S := fun (W' : World) => W'.cell? ⟨ab, ao + k, none⟩ = some (.int .i64 x) ∧ W'.cell? ⟨tb + 1, 0, none⟩ = some (.slice (some ⟨g0, 0, none⟩) 3 cap0) ∧ W'.cell? ⟨g0, k, none⟩ = some (.int .i64 (fr : Int))) (s := 13) (by kernel_rfl) ?_
            have hS : (fun (W' : World) => W'.cell? ⟨ab, ao + k, none⟩ = some (.int .i64 x) ∧ W'.cell? ⟨tb + 1, 0, none⟩ = some (.slice (some ⟨g0, 0, none⟩) 3 cap0) ∧ W'.cell? ⟨g0, k, none⟩ = some (.int .i64 (fr : Int))) _ := ⟨c0, c1, c2⟩
            refine wpE_take (i := 0) (oi := { dst := some 84, op := Go.Op.move (Go.Operand.tmp 9), type := 59, pos := "outright.go:43", after := #[], guard := none }) (v := ?_) rfl (by kernel_rfl) (fun _ _ _ h => h) (Or.inl ⟨by rfl, fun W hW => ?_⟩) hS ?_
            rotate_left
            · obtain ⟨hw1, hw2, hw3⟩ := hW; go_simp; (try go_bits); (try rw [if_pos (by omega)]); (try with_reducible rfl)
            (try simp only [Act.put, List.setIfInBounds_toArray, List.set_cons_succ, List.set_cons_zero])
            refine wpE_take (i := 1) (oi := { dst := some 85, op := Go.Op.move (Go.Operand.tmp 0), type := 45, pos := "outright.go:43", after := #[], guard := none }) (v := ?_) rfl (by kernel_rfl) (fun _ _ _ h => h) (Or.inl ⟨by rfl, fun W hW => ?_⟩) hS ?_
            rotate_left
            · obtain ⟨hw1, hw2, hw3⟩ := hW; go_simp; (try go_bits); (try rw [if_pos (by omega)]); (try with_reducible rfl)
            (try simp only [Act.put, List.setIfInBounds_toArray, List.set_cons_succ, List.set_cons_zero])
            refine wpE_take (i := 2) (oi := { dst := some 86, op := Go.Op.move (Go.Operand.tmp 20), type := 3, pos := "outright.go:43", after := #[], guard := none }) (v := ?_) rfl (by kernel_rfl) (fun _ _ _ h => h) (Or.inl ⟨by rfl, fun W hW => ?_⟩) hS ?_
            rotate_left
            · obtain ⟨hw1, hw2, hw3⟩ := hW; go_simp; (try go_bits); (try rw [if_pos (by omega)]); (try with_reducible rfl)
            (try simp only [Act.put, List.setIfInBounds_toArray, List.set_cons_succ, List.set_cons_zero])
            refine wpE_take (i := 3) (oi := { dst := some 87, op := Go.Op.indexAddr 45 (Go.Operand.tmp 85) (Go.Operand.tmp 86), type := 0, pos := "outright.go:43", after := #[{ on := 1, ground := Go.Ground.data }, { on := 2, ground := Go.Ground.data }], guard := none }) (v := ?_) rfl (by kernel_rfl) (fun _ _ _ h => h) (Or.inl ⟨by rfl, fun W hW => ?_⟩) hS ?_
            rotate_left
            · obtain ⟨hw1, hw2, hw3⟩ := hW; go_simp; (try go_bits); (try rw [if_pos (by omega)]); (try with_reducible rfl)
            (try simp only [Act.put, List.setIfInBounds_toArray, List.set_cons_succ, List.set_cons_zero])
            refine wpE_take (i := 4) (oi := { dst := some 88, op := Go.Op.load 3 (Go.Operand.tmp 87), type := 3, pos := "outright.go:43", after := #[{ on := 3, ground := Go.Ground.data }], guard := none }) (v := ?_) rfl (by kernel_rfl) (fun _ _ _ h => h) (Or.inl ⟨by rfl, fun W hW => ?_⟩) hS ?_
            rotate_left
            · obtain ⟨hw1, hw2, hw3⟩ := hW; go_simp; (try go_bits); (try rw [if_pos (by omega)]); (try with_reducible rfl)
            (try simp only [Act.put, List.setIfInBounds_toArray, List.set_cons_succ, List.set_cons_zero])
            refine wpE_take (i := 8) (oi := { dst := some 92, op := Go.Op.indexAddr 132 (Go.Operand.tmp 14) (Go.Operand.const (Go.Value.int Go.IntKind.i64 0)), type := 0, pos := "outright.go:43", after := #[], guard := none }) (v := ?_) rfl (by kernel_rfl) (fun _ _ _ h => h) (Or.inl ⟨by rfl, fun W hW => ?_⟩) hS ?_
            rotate_left
            · obtain ⟨hw1, hw2, hw3⟩ := hW; go_simp; (try go_bits); (try rw [if_pos (by omega)]); (try with_reducible rfl)
            (try simp only [Act.put, List.setIfInBounds_toArray, List.set_cons_succ, List.set_cons_zero])
            refine wpE_take (i := 9) (oi := { dst := some 93, op := Go.Op.load 45 (Go.Operand.tmp 92), type := 45, pos := "outright.go:43", after := #[{ on := 8, ground := Go.Ground.data }], guard := none }) (v := ?_) rfl (by kernel_rfl) (fun _ _ _ h => h) (Or.inl ⟨by rfl, fun W hW => ?_⟩) hS ?_
            rotate_left
            · obtain ⟨hw1, hw2, hw3⟩ := hW; go_simp; (try go_bits); (try rw [if_pos (by omega)]); (try with_reducible rfl)
            (try simp only [Act.put, List.setIfInBounds_toArray, List.set_cons_succ, List.set_cons_zero])
            refine wpE_take (i := 10) (oi := { dst := some 94, op := Go.Op.move (Go.Operand.tmp 20), type := 3, pos := "outright.go:43", after := #[], guard := none }) (v := ?_) rfl (by kernel_rfl) (fun _ _ _ h => h) (Or.inl ⟨by rfl, fun W hW => ?_⟩) hS ?_
            rotate_left
            · obtain ⟨hw1, hw2, hw3⟩ := hW; go_simp; (try go_bits); (try rw [if_pos (by omega)]); (try with_reducible rfl)
            (try simp only [Act.put, List.setIfInBounds_toArray, List.set_cons_succ, List.set_cons_zero])
            refine wpE_take (i := 11) (oi := { dst := some 95, op := Go.Op.indexAddr 45 (Go.Operand.tmp 93) (Go.Operand.tmp 94), type := 0, pos := "outright.go:43", after := #[{ on := 9, ground := Go.Ground.data }, { on := 10, ground := Go.Ground.data }], guard := none }) (v := ?_) rfl (by kernel_rfl) (fun _ _ _ h => h) (Or.inl ⟨by rfl, fun W hW => ?_⟩) hS ?_
            rotate_left
            · obtain ⟨hw1, hw2, hw3⟩ := hW; go_simp; (try go_bits); (try rw [if_pos (by omega)]); (try with_reducible rfl)
            (try simp only [Act.put, List.setIfInBounds_toArray, List.set_cons_succ, List.set_cons_zero])
            refine wpE_take (i := 12) (oi := { dst := some 96, op := Go.Op.load 3 (Go.Operand.tmp 95), type := 3, pos := "outright.go:43", after := #[{ on := 11, ground := Go.Ground.data }], guard := none }) (v := ?_) rfl (by kernel_rfl) (fun _ _ _ h => h) (Or.inl ⟨by rfl, fun W hW => ?_⟩) hS ?_
            rotate_left
            · obtain ⟨hw1, hw2, hw3⟩ := hW; go_simp; (try go_bits); (try rw [if_pos (by omega)]); (try with_reducible rfl)
            (try simp only [Act.put, List.setIfInBounds_toArray, List.set_cons_succ, List.set_cons_zero])
            refine wpE_only (i := 5) (oi := { dst := some 89, op := Go.Op.call { callee := Go.Callee.value (Go.Operand.func 17), args := #[Go.Operand.tmp 88, Go.Operand.const (Go.Value.int Go.IntKind.i64 4)], argTypes := #[3, 3] }, type := 3, pos := "outright.go:43", after := #[{ on := 4, ground := Go.Ground.data }], guard := none }) rfl (by kernel_rfl) (by rfl) (fun K hK => ?_)
            go_simp; refine (HPx.out _).mono ?_; rintro e wz ⟨rfl, rfl⟩; refine hK _ _ hS ?_; clear hK K
            (try simp only [Act.put, List.setIfInBounds_toArray, List.set_cons_succ, List.set_cons_zero])
            refine wpE_take (i := 6) (oi := { dst := some 90, op := Go.Op.binOp Go.BinOp.add 3 (Go.Operand.const (Go.Value.int Go.IntKind.i64 524288)) (Go.Operand.tmp 89) 3, type := 3, pos := "outright.go:43", after := #[{ on := 5, ground := Go.Ground.data }], guard := none }) (v := ?_) rfl (by kernel_rfl) (fun _ _ _ h => h) (Or.inl ⟨by rfl, fun W hW => ?_⟩) hS ?_
            rotate_left
            · obtain ⟨hw1, hw2, hw3⟩ := hW; go_simp; (try go_bits); (try rw [if_pos (by omega)]); (try with_reducible rfl)
            (try simp only [Act.put, List.setIfInBounds_toArray, List.set_cons_succ, List.set_cons_zero])
            refine wpE_take (i := 7) (oi := { dst := some 91, op := Go.Op.convert 3 30 (Go.Operand.tmp 90), type := 30, pos := "outright.go:43", after := #[{ on := 6, ground := Go.Ground.data }], guard := none }) (v := ?_) rfl (by kernel_rfl) (fun _ _ _ h => h) (Or.inl ⟨by rfl, fun W hW => ?_⟩) hS ?_
            rotate_left
            · obtain ⟨hw1, hw2, hw3⟩ := hW; go_simp; (try go_bits); (try rw [if_pos (by omega)]); (try with_reducible rfl)
            (try simp only [Act.put, List.setIfInBounds_toArray, List.set_cons_succ, List.set_cons_zero])
            refine wpE_last (oi := { dst := some 97, op := Go.Op.call { callee := Go.Callee.value (Go.Operand.func 40), args := #[Go.Operand.tmp 84, Go.Operand.tmp 91, Go.Operand.tmp 96, Go.Operand.const (Go.Value.int Go.IntKind.i64 6)], argTypes := #[59, 30, 3, 3] }, type := 32, pos := "outright.go:43", after := #[{ on := 0, ground := Go.Ground.data }, { on := 7, ground := Go.Ground.data }, { on := 12, ground := Go.Ground.data }, { on := 5, ground := Go.Ground.chain }], guard := none }) rfl (by kernel_rfl) (by kernel_rfl) (by rfl) (fun K hK => ?_)
            go_simp; refine (HMp.out _ (by go_num)).mono ?_; rintro e wz ⟨er, rfl, own4, ba4, PA4, m4, hS4, hI4⟩; have H4 := Lib.hid (And.intro (H3.out.1.step hS4 (by omega)) hI4); clear hS4 hI4 H3 HMp; refine hK _ _ ?_; clear hK K
            clear hS c0 c1 c2
            go_wp2
            exact ⟨⟨k + 1, by omega, by omega, by go_num, own4, ba4, PA4, m4, H4.out⟩, by simp [intOf]; omega⟩
          · have hex : k = mi.length ∨ (k < mi.length ∧ k = 3) := by omega
            clear hlt
            rcases hex with hex | ⟨hex, hex3⟩
            · have hd : decide (k < mi.length) = false := by simp; omega
              clear hex
              go_wp2_with fail
              go_meet
              exact HR.out
            · subst hex3
              have hd : (3 : Int) < (mi.length : Int) := by omega
              clear hex
              go_wp2_with fail
              go_meet
              exact HR.out
      case rest =>
        rename World => wc
        have HC := hcut
        clear hcut
        obtain ⟨own2, ba, PA, m, hW, hAI⟩ := HC.out
        have H2 := Lib.hid (And.intro hW hAI)
        clear hW hAI HC
        go_upto_block 4 with fail
        go_cut [] (fun wx => Hid (∃ own' bb PB m, AW w p1 p2 tb (tb + 1) own' wx v0 v1 (rowA 3) (rowB 3) ∧ AI own' wx sa sb pp p1 ba bb PA PB m))
        case first =>
          go_wp2_with fail
          go_loopw [21] (fun i wr => ∃ (k : Nat), k ≤ 3 ∧ k ≤ th.length ∧ i = .int .i64 (k : Int) ∧ Hid (∃ own' bb PB m, AW w p1 p2 tb (tb + 1) own' wr v0 v1 (rowA 3) (rowB 3) ∧ AI own' wr sa sb pp p1 ba bb PA PB m)) (fun i _ => 3 - (intOf i).toNat)
          case atStart => exact ⟨0, by omega, by omega, rfl, own2, false, _, _, H2.out⟩
          case round =>
            rename World => wo
            obtain ⟨k, hk3, hkm, rfl, HR⟩ := hrel
            clear H2
            by_cases hlt : k < th.length ∧ k < 3
            · obtain ⟨hlm, hl3⟩ := hlt
              obtain ⟨own3, bb, PB, m, hW, hI⟩ := HR.out
              have hlm' : (k : Int) < (th.length : Int) := by omega
              have hl3' : (k : Int) < 3 := by omega
              obtain ⟨ab, ao, rfl, hab, hac⟩ := HXB.out.1.start (by omega) (by omega)
              have hget : th[k]? = some th[k] := List.getElem?_eq_getElem hlm
              have hwf := HXB.out.2 _ (List.getElem_mem hlm)
              have c0 := (hW.st.upd.cell (p := ⟨ab, ao + k, none⟩) hab (fun h => h rfl)).trans (hac k _ (by rw [List.getElem?_map, hget]; rfl))
              obtain ⟨A0, cap0, hv1, hf0⟩ := hW.r1.form
              obtain ⟨g0, rfl, hgo, hgl, hgc⟩ := hf0 (by decide)
              obtain ⟨fr, hfr, hqf⟩ := rowB_at k hl3
              have c2 := hgc k _ hfr
              have c1 : wo.cell? ⟨tb + 1, 1, none⟩ = some v1 := hW.bo.cell 1
              rw [show (rowB 3).length = 3 from rfl] at hv1
              subst hv1
              generalize th[k] = x at *
              obtain ⟨hx0, hx1⟩ := hwf
              have HPx := Lib.hid (fun w => place_calls x 4 w hx0 hx1 (by omega) (by omega))
              obtain ⟨r, hr⟩ : ∃ r : Nat, x % 4 = (r : Int) := ⟨(x % 4).toNat, by omega⟩
              have hr4 : r < 4 := by omega
              rw [hr] at HPx
              have H3 := Lib.hid (And.intro (hW.step (C := fun _ => False) ((Step.refl _ _ _).drew) (by simp)) (hI.step (C := fun _ => False) ((Step.refl _ _ _).drew) (by simp)))
              have HMp := Lib.hid (fun a ha => ai_mapB' H3.out.2 r fr hr4 hqf a ha)
              clear hW hI hget hac hf0 hgc hfr hqf hr HR hgl hgo
              go_wp2_with fail
              refine wpE_region (S := fun (W' : World) => W'.cell? ⟨ab, ao + k, none⟩ = some (.int .i64 x) ∧ W'.cell? ⟨tb + 1, 1, none⟩ = some (.slice (some ⟨g0, 0, none⟩) 3 cap0) ∧ W'.cell? ⟨g0, k, none⟩ = some (.int .i64 (fr : Int))) (s := 13) (by kernel_rfl) ?_
              have hS : (fun (W' : World) => W'.cell? ⟨ab, ao + k, none⟩ = some (.int .i64 x) ∧ W'.cell? ⟨tb + 1, 1, none⟩ = some (.slice (some ⟨g0, 0, none⟩) 3 cap0) ∧ W'.cell? ⟨g0, k, none⟩ = some (.int .i64 (fr : Int))) _ := ⟨c0, c1, c2⟩
              refine wpE_take (i := 0) (oi := { dst := some 108, op := Go.Op.move (Go.Operand.tmp 10), type := 59, pos := "outright.go:46", after := #[], guard := none }) (v := ?_) rfl (by kernel_rfl) (fun _ _ _ h => h) (Or.inl ⟨by rfl, fun W hW => ?_⟩) hS ?_
              rotate_left
              · obtain ⟨hw1, hw2, hw3⟩ := hW; go_simp; (try go_bits); (try rw [if_pos (by omega)]); (try with_reducible rfl)
              (try simp only [Act.put, List.setIfInBounds_toArray, List.set_cons_succ, List.set_cons_zero])
              refine wpE_take (i := 1) (oi := { dst := some 109, op := Go.Op.move (Go.Operand.tmp 1), type := 45, pos := "outright.go:46", after := #[], guard := none }) (v := ?_) rfl (by kernel_rfl) (fun _ _ _ h => h) (Or.inl ⟨by rfl, fun W hW => ?_⟩) hS ?_
              rotate_left
              · obtain ⟨hw1, hw2, hw3⟩ := hW; go_simp; (try go_bits); (try rw [if_pos (by omega)]); (try with_reducible rfl)
              (try simp only [Act.put, List.setIfInBounds_toArray, List.set_cons_succ, List.set_cons_zero])
              refine wpE_take (i := 2) (oi := { dst := some 110, op := Go.Op.move (Go.Operand.tmp 21), type := 3, pos := "outright.go:46", after := #[], guard := none }) (v := ?_) rfl (by kernel_rfl) (fun _ _ _ h => h) (Or.inl ⟨by rfl, fun W hW => ?_⟩) hS ?_
              rotate_left
              · obtain ⟨hw1, hw2, hw3⟩ := hW; go_simp; (try go_bits); (try rw [if_pos (by omega)]); (try with_reducible rfl)
              (try simp only [Act.put, List.setIfInBounds_toArray, List.set_cons_succ, List.set_cons_zero])
              refine wpE_take (i := 3) (oi := { dst := some 111, op := Go.Op.indexAddr 45 (Go.Operand.tmp 109) (Go.Operand.tmp 110), type := 0, pos := "outright.go:46", after := #[{ on := 1, ground := Go.Ground.data }, { on := 2, ground := Go.Ground.data }], guard := none }) (v := ?_) rfl (by kernel_rfl) (fun _ _ _ h => h) (Or.inl ⟨by rfl, fun W hW => ?_⟩) hS ?_
              rotate_left
              · obtain ⟨hw1, hw2, hw3⟩ := hW; go_simp; (try go_bits); (try rw [if_pos (by omega)]); (try with_reducible rfl)
              (try simp only [Act.put, List.setIfInBounds_toArray, List.set_cons_succ, List.set_cons_zero])
              refine wpE_take (i := 4) (oi := { dst := some 112, op := Go.Op.load 3 (Go.Operand.tmp 111), type := 3, pos := "outright.go:46", after := #[{ on := 3, ground := Go.Ground.data }], guard := none }) (v := ?_) rfl (by kernel_rfl) (fun _ _ _ h => h) (Or.inl ⟨by rfl, fun W hW => ?_⟩) hS ?_
              rotate_left
              · obtain ⟨hw1, hw2, hw3⟩ := hW; go_simp; (try go_bits); (try rw [if_pos (by omega)]); (try with_reducible rfl)
              (try simp only [Act.put, List.setIfInBounds_toArray, List.set_cons_succ, List.set_cons_zero])
              refine wpE_take (i := 8) (oi := { dst := some 116, op := Go.Op.indexAddr 132 (Go.Operand.tmp 14) (Go.Operand.const (Go.Value.int Go.IntKind.i64 1)), type := 0, pos := "outright.go:46", after := #[], guard := none }) (v := ?_) rfl (by kernel_rfl) (fun _ _ _ h => h) (Or.inl ⟨by rfl, fun W hW => ?_⟩) hS ?_
              rotate_left
              · obtain ⟨hw1, hw2, hw3⟩ := hW; go_simp; (try go_bits); (try rw [if_pos (by omega)]); (try with_reducible rfl)
              (try simp only [Act.put, List.setIfInBounds_toArray, List.set_cons_succ, List.set_cons_zero])
              refine wpE_take (i := 9) (oi := { dst := some 117, op := Go.Op.load 45 (Go.Operand.tmp 116), type := 45, pos := "outright.go:46", after := #[{ on := 8, ground := Go.Ground.data }], guard := none }) (v := ?_) rfl (by kernel_rfl) (fun _ _ _ h => h) (Or.inl ⟨by rfl, fun W hW => ?_⟩) hS ?_
              rotate_left
              · obtain ⟨hw1, hw2, hw3⟩ := hW; go_simp; (try go_bits); (try rw [if_pos (by omega)]); (try with_reducible rfl)
              (try simp only [Act.put, List.setIfInBounds_toArray, List.set_cons_succ, List.set_cons_zero])
              refine wpE_take (i := 10) (oi := { dst := some 118, op := Go.Op.move (Go.Operand.tmp 21), type := 3, pos := "outright.go:46", after := #[], guard := none }) (v := ?_) rfl (by kernel_rfl) (fun _ _ _ h => h) (Or.inl ⟨by rfl, fun W hW => ?_⟩) hS ?_
              rotate_left
              · obtain ⟨hw1, hw2, hw3⟩ := hW; go_simp; (try go_bits); (try rw [if_pos (by omega)]); (try with_reducible rfl)
              (try simp only [Act.put, List.setIfInBounds_toArray, List.set_cons_succ, List.set_cons_zero])
              refine wpE_take (i := 11) (oi := { dst := some 119, op := Go.Op.indexAddr 45 (Go.Operand.tmp 117) (Go.Operand.tmp 118), type := 0, pos := "outright.go:46", after := #[{ on := 9, ground := Go.Ground.data }, { on := 10, ground := Go.Ground.data }], guard := none }) (v := ?_) rfl (by kernel_rfl) (fun _ _ _ h => h) (Or.inl ⟨by rfl, fun W hW => ?_⟩) hS ?_
              rotate_left
              · obtain ⟨hw1, hw2, hw3⟩ := hW; go_simp; (try go_bits); (try rw [if_pos (by omega)]); (try with_reducible rfl)
              (try simp only [Act.put, List.setIfInBounds_toArray, List.set_cons_succ, List.set_cons_zero])
              refine wpE_take (i := 12) (oi := { dst := some 120, op := Go.Op.load 3 (Go.Operand.tmp 119), type := 3, pos := "outright.go:46", after := #[{ on := 11, ground := Go.Ground.data }], guard := none }) (v := ?_) rfl (by kernel_rfl) (fun _ _ _ h => h) (Or.inl ⟨by rfl, fun W hW => ?_⟩) hS ?_
              rotate_left
              · obtain ⟨hw1, hw2, hw3⟩ := hW; go_simp; (try go_bits); (try rw [if_pos (by omega)]); (try with_reducible rfl)
              (try simp only [Act.put, List.setIfInBounds_toArray, List.set_cons_succ, List.set_cons_zero])
              refine wpE_only (i := 5) (oi := { dst := some 113, op := Go.Op.call { callee := Go.Callee.value (Go.Operand.func 17), args := #[Go.Operand.tmp 112, Go.Operand.const (Go.Value.int Go.IntKind.i64 4)], argTypes := #[3, 3] }, type := 3, pos := "outright.go:46", after := #[{ on := 4, ground := Go.Ground.data }], guard := none }) rfl (by kernel_rfl) (by rfl) (fun K hK => ?_)
              go_simp; refine (HPx.out _).mono ?_; rintro e wz ⟨rfl, rfl⟩; refine hK _ _ hS ?_; clear hK K
              (try simp only [Act.put, List.setIfInBounds_toArray, List.set_cons_succ, List.set_cons_zero])
              refine wpE_take (i := 6) (oi := { dst := some 114, op := Go.Op.binOp Go.BinOp.add 3 (Go.Operand.const (Go.Value.int Go.IntKind.i64 524288)) (Go.Operand.tmp 113) 3, type := 3, pos := "outright.go:46", after := #[{ on := 5, ground := Go.Ground.data }], guard := none }) (v := ?_) rfl (by kernel_rfl) (fun _ _ _ h => h) (Or.inl ⟨by rfl, fun W hW => ?_⟩) hS ?_
              rotate_left
              · obtain ⟨hw1, hw2, hw3⟩ := hW; go_simp; (try go_bits); (try rw [if_pos (by omega)]); (try with_reducible rfl)
              (try simp only [Act.put, List.setIfInBounds_toArray, List.set_cons_succ, List.set_cons_zero])
              refine wpE_take (i := 7) (oi := { dst := some 115, op := Go.Op.convert 3 30 (Go.Operand.tmp 114), type := 30, pos := "outright.go:46", after := #[{ on := 6, ground := Go.Ground.data }], guard := none }) (v := ?_) rfl (by kernel_rfl) (fun _ _ _ h => h) (Or.inl ⟨by rfl, fun W hW => ?_⟩) hS ?_
              rotate_left
              · obtain ⟨hw1, hw2, hw3⟩ := hW; go_simp; (try go_bits); (try rw [if_pos (by omega)]); (try with_reducible rfl)
              (try simp only [Act.put, List.setIfInBounds_toArray, List.set_cons_succ, List.set_cons_zero])
              refine wpE_last (oi := { dst := some 121, op := Go.Op.call { callee := Go.Callee.value (Go.Operand.func 40), args := #[Go.Operand.tmp 108, Go.Operand.tmp 115, Go.Operand.tmp 120, Go.Operand.const (Go.Value.int Go.IntKind.i64 6)], argTypes := #[59, 30, 3, 3] }, type := 32, pos := "outright.go:46", after := #[{ on := 0, ground := Go.Ground.data }, { on := 7, ground := Go.Ground.data }, { on := 12, ground := Go.Ground.data }, { on := 5, ground := Go.Ground.chain }], guard := none }) rfl (by kernel_rfl) (by kernel_rfl) (by rfl) (fun K hK => ?_)
              go_simp; refine (HMp.out _ (by go_num)).mono ?_; rintro e wz ⟨er, rfl, own4, bb4, PB4, m4, hS4, hI4⟩; have H4 := Lib.hid (And.intro (H3.out.1.step hS4 (by omega)) hI4); clear hS4 hI4 H3 HMp; refine hK _ _ ?_; clear hK K
              clear hS c0 c1 c2
              go_wp2
              exact ⟨⟨k + 1, by omega, by omega, by go_num, own4, bb4, PB4, m4, H4.out⟩, by simp [intOf]; omega⟩
            · have hex : k = th.length ∨ (k < th.length ∧ k = 3) := by omega
              clear hlt
              rcases hex with hex | ⟨hex, hex3⟩
              · have hd : decide (k < th.length) = false := by simp; omega
                clear hex
                go_wp2_with fail
                go_meet
                exact HR.out
              · subst hex3
                have hd : (3 : Int) < (th.length : Int) := by omega
                clear hex
                go_wp2_with fail
                go_meet
                exact HR.out
        case rest =>
          rename World => wd
          have HC := hcut
          clear hcut
          obtain ⟨own3, bb, PB, m3, hW, hAI⟩ := HC.out
          have c0 : wd.cell? ⟨tb, 0, none⟩ = some (.pointer (some ⟨p1, 0, none⟩)) := hW.bt.cell 0
          obtain ⟨bt3, cnt3, hpm⟩ := hAI.pm
          have HCp := Lib.hid (ram_Copy (d := 11) hpm.2 (by decide))
          have H3 := Lib.hid (And.intro hW hAI)
          clear hW hAI hpm HC
          go_wp2_with fail
          refine HCp.out.mono ?_; rintro e we ⟨pc, own4, rfl, hS4, hM4⟩
          have H4 := Lib.hid (And.intro (H3.out.1.step hS4 (by simp)) (And.intro (H3.out.2.step hS4 (by simp)) hM4))
          clear hS4 hM4 H3 HCp c0
          go_wp2
          go_loopw [23] (fun i wr => ∃ (k : Nat), k ≤ 4 ∧ i = .int .u64 (k : Int) ∧ Hid (∃ own' m', AW w p1 p2 tb (tb + 1) own' wr v0 v1 (rowA 3) (rowB 3) ∧ AI own' wr sa sb pp p1 ba bb PA PB m' ∧ MemAt ramK own' 11 wr pc 0 16 m3 ∧ ∀ x, ¬ qA (x / 4096) → m' x = m3 x)) (fun i _ => 4 - (intOf i).toNat)
          case atStart => exact ⟨0, by omega, rfl, own4, m3, H4.out.1, H4.out.2.1, H4.out.2.2, fun _ _ => rfl⟩
          case round =>
            rename World => wo
            obtain ⟨k, hk, rfl, HR⟩ := hrel
            clear H4
            by_cases hlt : k < 4
            · obtain ⟨own5, m5, hW, hI, hM, hm⟩ := HR.out
              have hlt' : (k : Int) < 4 := by omega
              have H5 := Lib.hid (And.intro hW (And.intro hM (And.intro hm hI)))
              have HWr := Lib.hid (fun a ha => ai_write' hI k at8 v HV.out.1 hlt HV.out.2 a ha)
              have ha5 := HV.out.2
              clear hW hI hM hm HR
              go_wp2_with fail
              refine (HPl.out _).mono ?_; rintro e wz ⟨rfl, rfl⟩
              go_wp2_with fail
              refine (HWr.out _ (by go_num)).mono ?_; rintro e wz ⟨ok, rfl, own6, m6, hS6, hI6, hm6⟩
              have H6 := Lib.hid (And.intro (H5.out.1.step hS6 (by omega)) (And.intro hI6 (And.intro (H5.out.2.1.step hS6 (by omega)) (fun x hx => (hm6 x hx).trans (H5.out.2.2.1 x hx)))))
              clear hS6 hI6 hm6 H5 HWr ha5
              go_wp2
              exact ⟨⟨k + 1, by omega, by go_num, own6, m6, H6.out⟩, by simp [intOf]; omega⟩
            · obtain rfl : k = 4 := by omega
              clear hlt
              rw [show ((4 : Nat) : Int) = 4 from rfl]
              go_wp2
              go_loopw [24] (fun i wr => ∃ (k : Nat), k ≤ 16 ∧ i = .int .i64 (k : Int) ∧ Hid (∃ own' m', AW w p1 p2 tb (tb + 1) own' wr v0 v1 (rowA 3) (rowB 3) ∧ AI own' wr sa sb pp p1 ba bb PA PB m' ∧ MemAt ramK own' 11 wr pc 0 16 m3 ∧ ∀ x, ¬ qA (x / 4096) → m' x = m3 x)) (fun i _ => 16 - (intOf i).toNat)
              case atStart => exact ⟨0, by omega, rfl, HR.out⟩
              case round =>
                rename World => wp
                have HR0 := HR
                clear HR
                obtain ⟨k, hk, rfl, HR⟩ := hrel
                clear HR0
                by_cases hlt : k < 16
                · obtain ⟨own5, m5, hW, hI, hM, hm⟩ := HR.out
                  have hlt' : (k : Int) < 16 := by omega
                  have HB1 := Lib.hid (fun a ha => ram_Bytes' hM (k * 4096) 4096 12 (by omega) (by decide) a ha)
                  have H5 := Lib.hid (And.intro hW (And.intro hI (And.intro hM hm)))
                  have HO := Lib.hid (ownB_at ba bb k hlt)
                  clear hW hI hM hm HR
                  go_wp2_with fail
                  refine (HB1.out _ (by go_num)).mono ?_; rintro e w6 ⟨xb, own6, rfl, hS6, ho6, hB6⟩
                  have h6 := H5.out.1.step hS6 (by simp)
                  have c6 : w6.cell? ⟨tb, 0, none⟩ = some (.pointer (some ⟨p1, 0, none⟩)) := h6.bt.cell 0
                  have hi6 := H5.out.2.1.step hS6 (by simp)
                  have hM6 := hi6.pm
                  have H6 := Lib.hid (And.intro h6 (And.intro hi6 (And.intro (H5.out.2.2.1.step hS6 (by simp)) (And.intro H5.out.2.2.2 (And.intro ho6 hB6)))))
                  obtain ⟨bt6, cnt6, hpm6⟩ := hM6
                  have HB2 := Lib.hid (fun a ha => ram_Bytes' hpm6.2 (k * 4096) 4096 13 (by omega) (by decide) a ha)
                  clear hS6 ho6 hB6 h6 hi6 hpm6 H5 HB1
                  go_wp2_with fail
                  refine (HB2.out _ (by go_num)).mono ?_; rintro e w7 ⟨yb, own7, rfl, hS7, ho7, hB7⟩
                  have h7 := H6.out.1.step hS7 (by simp)
                  have hi7 := H6.out.2.1.step hS7 (by simp)
                  have hx7 : BytesAt w7 xb m3 (k * 4096) 4096 := H6.out.2.2.2.2.2.upd hS7.upd (fun h => h)
                  obtain ⟨bt7, cnt7, hpm7⟩ := hi7.pm
                  have HOw := Lib.hid (pool_Owner hpm7.1 (k : Int))
                  have H7 := Lib.hid (And.intro h7 (And.intro hi7 (And.intro (H6.out.2.2.1.step hS7 (by simp)) (And.intro H6.out.2.2.2.1 (And.intro hx7 hB7)))))
                  clear hS7 ho7 hB7 h7 hi7 hx7 hpm7 H6 HB2 c6
                  obtain ⟨ov, hov⟩ : ∃ ov, ownerP (owB ba bb) (k : Int) = ov := ⟨_, rfl⟩
                  have HO2 := HO.out
                  clear HO
                  rw [hov] at HO2
                  have hO3 := HOw.out
                  simp only [hov] at hO3
                  have HO3 := Lib.hid hO3
                  clear hO3 HOw hov
                  go_wp2_with fail
                  refine HO3.out.mono ?_; rintro e wz ⟨rfl, rfl⟩
                  rcases HO2 with ⟨ho, hq⟩ | ⟨ho, hq⟩
                  · subst ho
                    clear hq HO3
                    go_wp2
                    exact ⟨⟨k + 1, by omega, by go_num, own7, m5, H7.out.1, H7.out.2.1, H7.out.2.2.1, H7.out.2.2.2.1⟩, by simp [intOf]; omega⟩
                  · have hne : (ov != 1) = true := by simpa using ho
                    have hby : BytesAt w7 yb m3 (k * 4096) 4096 := H7.out.2.2.2.2.2.cong (fun j hj => (H7.out.2.2.2.1 _ (by rw [show (k * 4096 + j) / 4096 = k from by omega]; exact hq)).symm)
                    have HSb := Lib.hid (law_SameBytes (ca := 4096) (cb := 4096) (by decide) H7.out.2.2.2.2.1 hby (fun _ _ => rfl))
                    clear hq hby HO3
                    go_wp2_with fail
                    refine HSb.out.mono ?_; rintro e wz ⟨rfl, q, rfl⟩
                    have hSq : Step (fun _ => False) own7 w7 own7 (w7.drewN q) := (Step.refl _ _ _).drewN q
                    have H8 := Lib.hid (And.intro (H7.out.1.step hSq (by simp)) (And.intro (H7.out.2.1.step hSq (by simp)) (And.intro (H7.out.2.2.1.step hSq (by simp)) H7.out.2.2.2.1)))
                    clear H7 HSb hSq ho hne
                    go_wp2
                    exact ⟨⟨k + 1, by omega, by go_num, own7, m5, H8.out⟩, by simp [intOf]; omega⟩
                · obtain rfl : k = 16 := by omega
                  clear hlt
                  rw [show ((16 : Nat) : Int) = 16 from rfl]
                  go_wp2
                  go_loopw [29] (fun i wr => ∃ (k : Nat), k ≤ 4 ∧ i = .int .u64 (k : Int) ∧ Hid (∃ own' m', AW w p1 p2 tb (tb + 1) own' wr v0 v1 (rowA 3) (rowB 3) ∧ AI own' wr sa sb pp p1 ba bb PA PB m')) (fun i _ => 4 - (intOf i).toNat)
                  case atStart =>
                    obtain ⟨own5, m5, hW, hI, _⟩ := HR.out
                    exact ⟨0, by omega, rfl, own5, m5, hW, hI⟩
                  case round =>
                    rename World => wq
                    have HR0 := HR
                    clear HR
                    obtain ⟨k, hk, rfl, HR⟩ := hrel
                    clear HR0
                    obtain ⟨own5, m5, hW, hI⟩ := HR.out
                    by_cases hlt : k < 4
                    · have hlt' : (k : Int) < 4 := by omega
                      have hstd : Step (fun _ => False) own5 wq own5 wq.drew := (Step.refl _ _ _).drew
                      have hWd := hW.step hstd (by simp)
                      have hId := hI.step hstd (by simp)
                      have c0 : wq.drew.cell? ⟨tb, 0, none⟩ = some (.pointer (some ⟨p1, 0, none⟩)) := hWd.bt.cell 0
                      have lt0 := hWd.bt.lt
                      have HRo := Lib.hid (ai_rootB hId)
                      have H5 := Lib.hid (And.intro hWd hId)
                      clear hW hI hWd hId hstd HR
                      go_wp2_with fail
                      refine wpE_region (S := fun (W' : World) => W'.cell? ⟨tb, 0, none⟩ = some (.pointer (some ⟨p1, 0, none⟩))) (s := 14) (by kernel_rfl) ?_
                      have hS : (fun (W' : World) => W'.cell? ⟨tb, 0, none⟩ = some (.pointer (some ⟨p1, 0, none⟩))) _ := c0
                      refine wpE_take (i := 0) (oi := { dst := some 178, op := Go.Op.fieldAddr 27 (Go.Operand.tmp 12) 0, type := 0, pos := "outright.go:63", after := #[], guard := none }) (v := ?_) rfl (by kernel_rfl) (fun _ _ _ h => h) (Or.inl ⟨by rfl, fun W hW => ?_⟩) hS ?_
                      rotate_left
                      · (have hw1 : W.cell? ⟨tb, 0, none⟩ = some (.pointer (some ⟨p1, 0, none⟩)) := hW); go_simp; (try go_bits); (try rw [if_pos (by omega)]); (try with_reducible rfl)
                      (try simp only [Act.put, List.setIfInBounds_toArray, List.set_cons_succ, List.set_cons_zero])
                      refine wpE_take (i := 1) (oi := { dst := some 179, op := Go.Op.load 24 (Go.Operand.tmp 178), type := 24, pos := "outright.go:63", after := #[{ on := 0, ground := Go.Ground.data }], guard := none }) (v := ?_) rfl (by kernel_rfl) (fun _ _ _ h => h) (Or.inl ⟨by rfl, fun W hW => ?_⟩) hS ?_
                      rotate_left
                      · (have hw1 : W.cell? ⟨tb, 0, none⟩ = some (.pointer (some ⟨p1, 0, none⟩)) := hW); go_simp; (try go_bits); (try rw [if_pos (by omega)]); (try with_reducible rfl)
                      (try simp only [Act.put, List.setIfInBounds_toArray, List.set_cons_succ, List.set_cons_zero])
                      refine wpE_take (i := 2) (oi := { dst := some 180, op := Go.Op.move (Go.Operand.tmp 10), type := 59, pos := "outright.go:63", after := #[], guard := none }) (v := ?_) rfl (by kernel_rfl) (fun _ _ _ h => h) (Or.inl ⟨by rfl, fun W hW => ?_⟩) hS ?_
                      rotate_left
                      · (have hw1 : W.cell? ⟨tb, 0, none⟩ = some (.pointer (some ⟨p1, 0, none⟩)) := hW); go_simp; (try go_bits); (try rw [if_pos (by omega)]); (try with_reducible rfl)
                      (try simp only [Act.put, List.setIfInBounds_toArray, List.set_cons_succ, List.set_cons_zero])
                      refine wpE_take (i := 4) (oi := { dst := some 182, op := Go.Op.move (Go.Operand.tmp 29), type := 30, pos := "outright.go:63", after := #[], guard := none }) (v := ?_) rfl (by kernel_rfl) (fun _ _ _ h => h) (Or.inl ⟨by rfl, fun W hW => ?_⟩) hS ?_
                      rotate_left
                      · (have hw1 : W.cell? ⟨tb, 0, none⟩ = some (.pointer (some ⟨p1, 0, none⟩)) := hW); go_simp; (try go_bits); (try rw [if_pos (by omega)]); (try with_reducible rfl)
                      (try simp only [Act.put, List.setIfInBounds_toArray, List.set_cons_succ, List.set_cons_zero])
                      refine wpE_take (i := 5) (oi := { dst := some 183, op := Go.Op.binOp Go.BinOp.add 30 (Go.Operand.const (Go.Value.int Go.IntKind.u64 524288)) (Go.Operand.tmp 182) 30, type := 30, pos := "outright.go:63", after := #[{ on := 4, ground := Go.Ground.data }], guard := none }) (v := ?_) rfl (by kernel_rfl) (fun _ _ _ h => h) (Or.inl ⟨by rfl, fun W hW => ?_⟩) hS ?_
                      rotate_left
                      · (have hw1 : W.cell? ⟨tb, 0, none⟩ = some (.pointer (some ⟨p1, 0, none⟩)) := hW); go_simp; (try go_bits); (try rw [if_pos (by omega)]); (try with_reducible rfl)
                      (try simp only [Act.put, List.setIfInBounds_toArray, List.set_cons_succ, List.set_cons_zero])
                      refine wpE_take (i := 6) (oi := { dst := some 184, op := Go.Op.binOp Go.BinOp.mul 30 (Go.Operand.tmp 183) (Go.Operand.const (Go.Value.int Go.IntKind.u64 4096)) 30, type := 30, pos := "outright.go:63", after := #[{ on := 5, ground := Go.Ground.data }], guard := none }) (v := ?_) rfl (by kernel_rfl) (fun _ _ _ h => h) (Or.inl ⟨by rfl, fun W hW => ?_⟩) hS ?_
                      rotate_left
                      · (have hw1 : W.cell? ⟨tb, 0, none⟩ = some (.pointer (some ⟨p1, 0, none⟩)) := hW); go_simp; (try go_bits); (try rw [if_pos (by omega)]); (try with_reducible rfl)
                      (try simp only [Act.put, List.setIfInBounds_toArray, List.set_cons_succ, List.set_cons_zero])
                      refine wpE_only (i := 3) (oi := { dst := some 181, op := Go.Op.call { callee := Go.Callee.value (Go.Operand.func 57), args := #[Go.Operand.tmp 180], argTypes := #[59] }, type := 30, pos := "outright.go:63", after := #[{ on := 2, ground := Go.Ground.data }], guard := none }) rfl (by kernel_rfl) (by rfl) (fun K hK => ?_)
                      go_simp
                      refine HRo.out.mono ?_; rintro e w6 ⟨rfl, hS6⟩
                      have hS : w6.cell? ⟨tb, 0, none⟩ = some (.pointer (some ⟨p1, 0, none⟩)) := (hS6.upd.cell (p := ⟨tb, 0, none⟩) lt0 (fun h => h)).trans c0
                      have lt6 := Nat.lt_of_lt_of_le lt0 hS6.upd.size
                      have hI6 := H5.out.2.step hS6 (by simp)
                      have HG := Lib.hid (fun a ha => ai_guest hI6 k hlt a ha)
                      have H6 := Lib.hid (And.intro (H5.out.1.step hS6 (by simp)) hI6)
                      clear hS6 hI6 H5 HRo
                      refine hK _ _ hS ?_; clear hK K
                      (try simp only [Act.put, List.setIfInBounds_toArray, List.set_cons_succ, List.set_cons_zero])
                      refine wpE_only (i := 7) (oi := { dst := some 185, op := Go.Op.call { callee := Go.Callee.value (Go.Operand.func 56), args := #[Go.Operand.tmp 179, Go.Operand.tmp 181, Go.Operand.tmp 184, Go.Operand.const (Go.Value.int Go.IntKind.i64 2)], argTypes := #[24, 30, 30, 3] }, type := 93, pos := "outright.go:63", after := #[{ on := 1, ground := Go.Ground.data }, { on := 3, ground := Go.Ground.data }, { on := 6, ground := Go.Ground.data }, { on := 3, ground := Go.Ground.chain }], guard := none }) rfl (by kernel_rfl) (by rfl) (fun K hK => ?_)
                      go_simp
                      refine (HG.out _ (by go_num)).mono ?_; rintro e w7 ⟨pa, pm, ft, rfl, hS7, hq⟩
                      have hS : w7.cell? ⟨tb, 0, none⟩ = some (.pointer (some ⟨p1, 0, none⟩)) := (hS7.upd.cell (p := ⟨tb, 0, none⟩) lt6 (fun h => h)).trans hS
                      have H7 := Lib.hid (And.intro (H6.out.1.step hS7 (by simp)) (And.intro (H6.out.2.step hS7 (by simp)) hq))
                      clear hS7 hq H6 HG
                      refine hK _ _ hS ?_; clear hK K
                      (try simp only [Act.put, List.setIfInBounds_toArray, List.set_cons_succ, List.set_cons_zero])
                      refine wpE_take (i := 8) (oi := { dst := some 177, op := Go.Op.move (Go.Operand.tmp 185), type := 93, pos := "outright.go:63", after := #[{ on := 7, ground := Go.Ground.data }], guard := none }) (v := ?_) rfl (by kernel_rfl) (fun _ _ _ h => h) (Or.inl ⟨by rfl, fun W hW => ?_⟩) hS ?_
                      rotate_left
                      · (have hw1 : W.cell? ⟨tb, 0, none⟩ = some (.pointer (some ⟨p1, 0, none⟩)) := hW); go_simp; (try go_bits); (try rw [if_pos (by omega)]); (try with_reducible rfl)
                      (try simp only [Act.put, List.setIfInBounds_toArray, List.set_cons_succ, List.set_cons_zero])
                      refine wpE_take (i := 9) (oi := { dst := some 186, op := Go.Op.extract (Go.Operand.tmp 177) 0, type := 30, pos := "outright.go:63", after := #[{ on := 8, ground := Go.Ground.data }], guard := none }) (v := ?_) rfl (by kernel_rfl) (fun _ _ _ h => h) (Or.inl ⟨by rfl, fun W hW => ?_⟩) hS ?_
                      rotate_left
                      · (have hw1 : W.cell? ⟨tb, 0, none⟩ = some (.pointer (some ⟨p1, 0, none⟩)) := hW); go_simp; (try go_bits); (try rw [if_pos (by omega)]); (try with_reducible rfl)
                      (try simp only [Act.put, List.setIfInBounds_toArray, List.set_cons_succ, List.set_cons_zero])
                      refine wpE_take (i := 10) (oi := { dst := some 187, op := Go.Op.extract (Go.Operand.tmp 177) 1, type := 3, pos := "outright.go:63", after := #[{ on := 8, ground := Go.Ground.data }, { on := 12, ground := Go.Ground.gcOnly Go.Departure.lateStores }], guard := none }) (v := ?_) rfl (by kernel_rfl) (fun _ _ _ h => h) (Or.inl ⟨by rfl, fun W hW => ?_⟩) hS ?_
                      rotate_left
                      · (have hw1 : W.cell? ⟨tb, 0, none⟩ = some (.pointer (some ⟨p1, 0, none⟩)) := hW); go_simp; (try go_bits); (try rw [if_pos (by omega)]); (try with_reducible rfl)
                      (try simp only [Act.put, List.setIfInBounds_toArray, List.set_cons_succ, List.set_cons_zero])
                      refine wpE_take (i := 11) (oi := { dst := some 188, op := Go.Op.extract (Go.Operand.tmp 177) 2, type := 3, pos := "outright.go:63", after := #[{ on := 8, ground := Go.Ground.data }, { on := 13, ground := Go.Ground.gcOnly Go.Departure.lateStores }], guard := none }) (v := ?_) rfl (by kernel_rfl) (fun _ _ _ h => h) (Or.inl ⟨by rfl, fun W hW => ?_⟩) hS ?_
                      rotate_left
                      · (have hw1 : W.cell? ⟨tb, 0, none⟩ = some (.pointer (some ⟨p1, 0, none⟩)) := hW); go_simp; (try go_bits); (try rw [if_pos (by omega)]); (try with_reducible rfl)
                      (try simp only [Act.put, List.setIfInBounds_toArray, List.set_cons_succ, List.set_cons_zero])
                      refine wpE_only (i := 12) (oi := { dst := some 30, op := Go.Op.assign (Go.Operand.tmp 186), type := 30, pos := "outright.go:63", after := #[{ on := 9, ground := Go.Ground.data }, { on := 7, ground := Go.Ground.chain }, { on := 0, ground := Go.Ground.phase }, { on := 1, ground := Go.Ground.phase }, { on := 2, ground := Go.Ground.phase }, { on := 3, ground := Go.Ground.phase }, { on := 4, ground := Go.Ground.phase }, { on := 5, ground := Go.Ground.phase }, { on := 6, ground := Go.Ground.phase }, { on := 7, ground := Go.Ground.phase }, { on := 8, ground := Go.Ground.phase }, { on := 9, ground := Go.Ground.phase }, { on := 10, ground := Go.Ground.textOnly Go.Departure.lateStores }, { on := 11, ground := Go.Ground.textOnly Go.Departure.lateStores }], guard := none }) rfl (by kernel_rfl) (by rfl) (fun K hK => ?_)
                      go_simp; (try go_bits); refine hK _ _ hS ?_; clear hK K
                      (try simp only [Act.put, List.setIfInBounds_toArray, List.set_cons_succ, List.set_cons_zero])
                      refine wpE_only (i := 13) (oi := { dst := some 31, op := Go.Op.assign (Go.Operand.tmp 187), type := 3, pos := "outright.go:63", after := #[{ on := 10, ground := Go.Ground.data }, { on := 12, ground := Go.Ground.chain }, { on := 0, ground := Go.Ground.phase }, { on := 1, ground := Go.Ground.phase }, { on := 2, ground := Go.Ground.phase }, { on := 3, ground := Go.Ground.phase }, { on := 4, ground := Go.Ground.phase }, { on := 5, ground := Go.Ground.phase }, { on := 6, ground := Go.Ground.phase }, { on := 7, ground := Go.Ground.phase }, { on := 8, ground := Go.Ground.phase }, { on := 9, ground := Go.Ground.phase }, { on := 10, ground := Go.Ground.phase }, { on := 11, ground := Go.Ground.textOnly Go.Departure.lateStores }, { on := 12, ground := Go.Ground.phase }], guard := none }) rfl (by kernel_rfl) (by rfl) (fun K hK => ?_)
                      go_simp; (try go_bits); refine hK _ _ hS ?_; clear hK K
                      (try simp only [Act.put, List.setIfInBounds_toArray, List.set_cons_succ, List.set_cons_zero])
                      refine wpE_last (oi := { dst := some 32, op := Go.Op.assign (Go.Operand.tmp 188), type := 3, pos := "outright.go:63", after := #[{ on := 11, ground := Go.Ground.data }, { on := 13, ground := Go.Ground.chain }, { on := 0, ground := Go.Ground.phase }, { on := 1, ground := Go.Ground.phase }, { on := 2, ground := Go.Ground.phase }, { on := 3, ground := Go.Ground.phase }, { on := 4, ground := Go.Ground.phase }, { on := 5, ground := Go.Ground.phase }, { on := 6, ground := Go.Ground.phase }, { on := 7, ground := Go.Ground.phase }, { on := 8, ground := Go.Ground.phase }, { on := 9, ground := Go.Ground.phase }, { on := 10, ground := Go.Ground.phase }, { on := 11, ground := Go.Ground.phase }, { on := 12, ground := Go.Ground.phase }, { on := 13, ground := Go.Ground.phase }], guard := none }) rfl (by kernel_rfl) (by kernel_rfl) (by rfl) (fun K hK => ?_)
                      go_simp; (try go_bits); refine hK _ _ ?_; clear hK K
                      clear hS c0
                      have hq := H7.out.2.2
                      rcases hq with rfl | ⟨rfl, fr, hfr, rfl⟩
                      · go_wp2
                        exact ⟨⟨k + 1, by omega, by go_num, own5, m5, H7.out.1, H7.out.2.1⟩, by simp [intOf]; omega⟩
                      · have hI7 := H7.out.2.1
                        obtain ⟨bt7, cnt7, hpm7⟩ := hI7.pm
                        have HOw := Lib.hid (fun a ha => pool_Owner' hpm7.1 (fr : Int) a ha)
                        have hfr16 := (q_bd.2 hfr).2
                        have hfv := HOw.out
                        simp only [ownB_b ba bb fr hfr] at hfv
                        have HFV := Lib.hid hfv
                        clear hI7 hpm7 HOw hfv hfr
                        go_wp2_with fail
                        refine (HFV.out _ (by go_num)).mono ?_; rintro e wz ⟨rfl, rfl⟩
                        clear HFV hfr16
                        go_wp2
                        exact ⟨⟨k + 1, by omega, by go_num, own5, m5, H7.out.1, H7.out.2.1⟩, by simp [intOf]; omega⟩
                    · obtain rfl : k = 4 := by omega
                      have HE := Lib.hid (upd_end' hW.st)
                      clear hW hI HR hlt
                      rw [show ((4 : Nat) : Int) = 4 from rfl]
                      go_wp2_with fail
                      refine (awake10 wq).mono ?_; rintro e w8 ⟨rfl, hU8⟩
                      have H8 := Lib.hid (HE.out.trans hU8)
                      clear hU8 HE
                      go_wp2
                      go_ret
                      exact ⟨rfl, H8.out⟩
end Go.Proofs.Ytpodeclkgcgpgaa
