import Derived.Test.YtpodeclkgcgpgaaSp3
/- A guest's space: build. -/
namespace Go.Proofs.Ytpodeclkgcgpgaa
set_option linter.unusedVariables false
open Go.RowKit
set_option maxRecDepth 100000

theorem SpAt.c0 {own : Nat → Nat} {w : World} {sp rp pp : Nat} {vmid : Int} {ts : List Int} (h : SpAt own w sp rp pp vmid ts) : w.cell? ⟨sp, 0, none⟩ = some (.pointer (some ⟨rp, 0, none⟩)) ∧ w.cell? ⟨sp, 1, none⟩ = some (.pointer (some ⟨pp, 0, none⟩)) ∧ sp < w.heap.size := by
  obtain ⟨v, hB, hR⟩ := h
  exact ⟨hB.1.cell 0, hB.1.cell 1, hB.1.lt⟩
theorem shl10 (f : Nat) (hf : f < 4503599627370496) : IntKind.u64.wrap ((f : Int) * 2 ^ 10) = ((f * 1024 : Nat) : Int) := by
  rw [show (2 : Int) ^ 10 = 1024 from rfl, IntWalk.u64_in _ (by omega)]; omega
theorem shl10' (f : Nat) (hf : f < 4503599627370496) : IntKind.u64.wrap ((f : Int) * 1024) = ((f * 1024 : Nat) : Int) := by
  rw [IntWalk.u64_in _ (by omega)]; omega
section
variable {own : Nat → Nat} {rp sp pp n : Nat} {res harts vmid : Int} {ts : List Int} {s : PSt} {w : World}
theorem lvS_len (s : PSt) (ts : List Int) (t i : Nat) : (lvS s ts t i).2.2.length ≤ ts.length + 1 := by
  unfold lvS; split <;> simp
set_option maxHeartbeats 2000000 in
theorem sp_build {t0 page : Nat} (h : GS own w sp rp pp vmid n res harts s ((t0 : Int) :: ts)) (hp : page < 134217728) (hts : ts.length ≤ 1000)
    (h1 : lvOk n s t0 (page / 262144)) (h2 : lvOk n (lvS s ((t0 : Int) :: ts) t0 (page / 262144)).2.1 (lvS s ((t0 : Int) :: ts) t0 (page / 262144)).1 (page / 512 % 512)) :
    Calls Try.prog 95 #[.pointer (some ⟨sp, 0, none⟩), .int .u64 (page : Int)] w fun e w' =>
      e = .returned (.int .i64 ((lvS (lvS s ((t0 : Int) :: ts) t0 (page / 262144)).2.1 (lvS s ((t0 : Int) :: ts) t0 (page / 262144)).2.2 (lvS s ((t0 : Int) :: ts) t0 (page / 262144)).1 (page / 512 % 512)).1 : Int)) ∧
      ∃ own', Step CS own w own' w' ∧ GS own' w' sp rp pp vmid n res harts (lvS (lvS s ((t0 : Int) :: ts) t0 (page / 262144)).2.1 (lvS s ((t0 : Int) :: ts) t0 (page / 262144)).2.2 (lvS s ((t0 : Int) :: ts) t0 (page / 262144)).1 (page / 512 % 512)).2.1 (lvS (lvS s ((t0 : Int) :: ts) t0 (page / 262144)).2.1 (lvS s ((t0 : Int) :: ts) t0 (page / 262144)).2.2 (lvS s ((t0 : Int) :: ts) t0 (page / 262144)).1 (page / 512 % 512)).2.2 := by
  obtain ⟨st, hst0, hst1, hst2⟩ : ∃ st : Nat → Nat × PSt × List Int, st 0 = (t0, s, (t0 : Int) :: ts) ∧ st 1 = lvS s ((t0 : Int) :: ts) t0 (page / 262144) ∧ st 2 = lvS (st 1).2.1 (st 1).2.2 (st 1).1 (page / 512 % 512) :=
    ⟨fun | 0 => (t0, s, (t0 : Int) :: ts) | 1 => lvS s ((t0 : Int) :: ts) t0 (page / 262144) | _ => lvS (lvS s ((t0 : Int) :: ts) t0 (page / 262144)).2.1 (lvS s ((t0 : Int) :: ts) t0 (page / 262144)).2.2 (lvS s ((t0 : Int) :: ts) t0 (page / 262144)).1 (page / 512 % 512), rfl, rfl, rfl⟩
  obtain ⟨ix, hi0, hi1⟩ : ∃ ix : Nat → Nat, ix 0 = page / 262144 ∧ ix 1 = page / 512 % 512 := ⟨fun | 0 => page / 262144 | _ => page / 512 % 512, rfl, rfl⟩
  rw [← hst1] at h2 ⊢
  rw [← hst2]
  have hok : ∀ j, j < 2 → lvOk n (st j).2.1 (st j).1 (ix j) := by
    intro j hj
    have : j = 0 ∨ j = 1 := by omega
    rcases this with rfl | rfl
    · rw [hst0, hi0]; exact h1
    · rw [hi1]; exact h2
  have hnext : ∀ j, j < 2 → st (j + 1) = lvS (st j).2.1 (st j).2.2 (st j).1 (ix j) := by
    intro j hj
    have : j = 0 ∨ j = 1 := by omega
    rcases this with rfl | rfl
    · rw [hst0, hi0]; exact hst1
    · rw [hi1]; exact hst2
  have hlen : ∀ j, j ≤ 2 → (st j).2.2.length ≤ 1010 := by
    intro j hj
    have l1 := lvS_len s ((t0 : Int) :: ts) t0 (page / 262144)
    have l2 := lvS_len (st 1).2.1 (st 1).2.2 (st 1).1 (page / 512 % 512)
    rw [← hst1] at l1
    rw [← hst2] at l2
    have : j = 0 ∨ j = 1 ∨ j = 2 := by omega
    rcases this with rfl | rfl | rfl
    · rw [hst0]; simp; omega
    · simp at l1; omega
    · simp at l1; omega
  have hG0 : GS own w sp rp pp vmid n res harts (st 0).2.1 (st 0).2.2 := by rw [hst0]; exact h
  obtain ⟨g, cap, s0, s1, s2, s3, sg, lsp, lg⟩ := h.2.cells
  have hn := h.1.2.sizes.2.2
  have HG := Lib.hid hG0
  have HF := Lib.hid (And.intro hok (And.intro hnext hlen))
  have HP := Lib.hid (st_path page hp w)
  rw [← hi0, ← hi1] at HP
  have ht0 : (st 0).1 = t0 := by rw [hst0]
  have HT0 := Lib.hid ht0
  clear h h1 h2 hok hnext hlen hG0 hst0 hst1 hst2 hi0 hi1 s1 s2 ht0 hts
  go_enter Try.func95, Try.ntmps95
  go_wp2_with fail
  refine HP.out.mono ?_; rintro e w1 ⟨pb, rfl, hU1, hpw, hpB⟩
  have hS1 : Step (fun _ => False) own w (ext own w 0) w1 := ⟨hU1, fun b hb => ext_old _ _ _ hb⟩
  have H1 := Lib.hid (And.intro hS1 (And.intro (HG.out.step hS1 (by simp)) (And.intro hpB (show ext own w 0 pb = 0 from ext_new _ _ _ hpw))))
  clear hU1 hS1 HP s0 s3 sg hpw hpB lsp lg HG
  go_wp2
  go_loopw [5, 19] (fun tb i wr => ∃ j : Nat, j ≤ 2 ∧ i = .int .i64 (j : Int) ∧ tb = .int .i64 (((st j).1 : Nat) : Int) ∧ Hid (∃ own', Step CS own w own' wr ∧ GS own' wr sp rp pp vmid n res harts (st j).2.1 (st j).2.2 ∧ (Blk wr pb 30 #[.int .u64 ((ix 0 : Nat) : Int), .int .u64 ((ix 1 : Nat) : Int)] ∧ own' pb = 0))) (fun _ i _ => 2 - (intOf i).toNat)
  case atStart => exact ⟨0, by omega, rfl, by rw [HT0.out], _, H1.out.1.mono (fun _ h => h.elim), H1.out.2⟩
  case round =>
    obtain ⟨j, hj, rfl, rfl, HR⟩ := hrel
    by_cases hj2 : j < 2
    · have hj2' : (j : Int) < 2 := by omega
      obtain ⟨own1, hS, hG, hpB⟩ := HR.out
      have hok := HF.out.1 j hj2
      have hnx := HF.out.2.1 j hj2
      have hln := HF.out.2.2 j (by omega)
      have hpx : wr.cell? ⟨pb, j, none⟩ = some (.int .u64 ((ix j : Nat) : Int)) := by
        have : j = 0 ∨ j = 1 := by omega
        rcases this with rfl | rfl
        · exact hpB.1.cell 0
        · exact hpB.1.cell 1
      have lpb := hpB.1.lt
      obtain ⟨t, ht⟩ : ∃ t, (st j).1 = t := ⟨_, rfl⟩
      obtain ⟨S, hSe⟩ : ∃ S, (st j).2.1 = S := ⟨_, rfl⟩
      obtain ⟨T, hTe⟩ : ∃ T, (st j).2.2 = T := ⟨_, rfl⟩
      obtain ⟨i, hie⟩ : ∃ i, ix j = i := ⟨_, rfl⟩
      rw [ht, hSe, hie] at hok
      rw [ht, hSe, hTe, hie] at hnx
      rw [hTe] at hln
      rw [hSe, hTe] at hG
      rw [hie] at hpx
      rw [ht]
      clear ht hSe hTe hie HR
      obtain ⟨ht, hi, hle, hfr⟩ := hok
      obtain ⟨c0, _, lsp⟩ := hG.2.c0
      have HB := Lib.hid (view_below hG.1.2 t i ht hi)
      have H2 := Lib.hid (And.intro hS (And.intro hG hpB))
      clear hS hG hpB
      by_cases hz : en S.m t i = 0
      · obtain ⟨f, hf⟩ := hfr hz
        rw [hz] at HB
        have hnx2 : st (j + 1) = (f, ⟨(growS S f).ow, S.bt, enS (growS S f).m t i ((f * 1024 + 1 : Nat) : Int), S.cnt⟩, T ++ [(f : Int)]) := by
          rw [hnx]; unfold lvS; rw [if_pos hz, hf]; rfl
        have HN := Lib.hid hnx2
        have hfn : f < n := by
          obtain ⟨⟨qo, qb, d, hP⟩, _⟩ := H2.out.2.1.1
          have := (free_lt hf).1
          rw [hP.lo] at this; exact this
        have HFF := Lib.hid hf
        clear hnx hnx2 hz hle hfr hf
        go_wp2_with fail
        refine HB.out.mono ?_; rintro e w3 ⟨rfl, hS3⟩
        have H3 := Lib.hid (And.intro (H2.out.1.trans (hS3.mono (fun _ h => h.elim))) (And.intro (H2.out.2.1.step hS3 (by simp)) (hS3.blk H2.out.2.2.1 H2.out.2.2.2 (fun h => h))))
        clear hS3 HB H2 c0 hpx lpb lsp
        have HGr := Lib.hid (sp_grow H3.out.2.1 f HFF.out (by omega))
        go_wp2_with fail
        refine HGr.out.mono ?_; rintro e w4 ⟨rfl, own4, hS4, hG4⟩
        have hst : Step (fun _ => False) own4 w4 own4 w4.drew := (Step.refl _ _ _).drew
        have hG4d := hG4.step hst (by simp)
        have hb4 := hst.blk (hS4.blk H3.out.2.2.1 H3.out.2.2.2 (by omega)).1 (hS4.blk H3.out.2.2.1 H3.out.2.2.2 (by omega)).2 (fun h => h)
        obtain ⟨c0, _, lsp⟩ := hG4d.2.c0
        have HNu := Lib.hid (view_number hG4d.1.2 f (by omega))
        have H4 := Lib.hid (And.intro ((H3.out.1.trans hS4).trans (hst.mono (fun _ h => h.elim))) (And.intro hG4d hb4))
        have HOR := Lib.hid (And.intro (shl10 f (by omega)) (And.intro (shl10' f (by omega)) (or_one_nat f (by omega))))
        clear hS4 hG4 hG4d hb4 hst HGr H3
        go_wp2_with fail
        refine wpE_region (S := fun (W' : World) => W'.cell? ⟨sp, 0, none⟩ = some (.pointer (some ⟨rp, 0, none⟩))) (s := 14) (by kernel_rfl) ?_
        have hS : (fun (W' : World) => W'.cell? ⟨sp, 0, none⟩ = some (.pointer (some ⟨rp, 0, none⟩))) _ := c0
        refine wpE_take (i := 0) (oi := { dst := some 37, op := Go.Op.move (Go.Operand.tmp 0), type := 59, pos := "stage.go:164", after := #[], guard := none }) (v := ?_) rfl (by kernel_rfl) (fun _ _ _ h => h) (Or.inl ⟨by rfl, fun W hW => ?_⟩) hS ?_
        rotate_left
        · (have hw1 : W.cell? ⟨sp, 0, none⟩ = some (.pointer (some ⟨rp, 0, none⟩)) := hW); go_simp; (try go_bits); (try rw [if_pos (by omega)]); (try with_reducible rfl)
        (try simp only [Act.put, List.setIfInBounds_toArray, List.set_cons_succ, List.set_cons_zero])
        refine wpE_take (i := 1) (oi := { dst := some 38, op := Go.Op.nilCheck (Go.Operand.tmp 37), type := 0, pos := "stage.go:164", after := #[{ on := 0, ground := Go.Ground.data }], guard := none }) (v := ?_) rfl (by kernel_rfl) (fun _ _ _ h => h) (Or.inl ⟨by rfl, fun W hW => ?_⟩) hS ?_
        rotate_left
        · (have hw1 : W.cell? ⟨sp, 0, none⟩ = some (.pointer (some ⟨rp, 0, none⟩)) := hW); go_simp; (try go_bits); (try rw [if_pos (by omega)]); (try with_reducible rfl)
        (try simp only [Act.put, List.setIfInBounds_toArray, List.set_cons_succ, List.set_cons_zero])
        refine wpE_take (i := 2) (oi := { dst := some 39, op := Go.Op.fieldAddr 181 (Go.Operand.tmp 38) 0, type := 0, pos := "stage.go:164", after := #[{ on := 1, ground := Go.Ground.data }], guard := none }) (v := ?_) rfl (by kernel_rfl) (fun _ _ _ h => h) (Or.inl ⟨by rfl, fun W hW => ?_⟩) hS ?_
        rotate_left
        · (have hw1 : W.cell? ⟨sp, 0, none⟩ = some (.pointer (some ⟨rp, 0, none⟩)) := hW); go_simp; (try go_bits); (try rw [if_pos (by omega)]); (try with_reducible rfl)
        (try simp only [Act.put, List.setIfInBounds_toArray, List.set_cons_succ, List.set_cons_zero])
        refine wpE_take (i := 3) (oi := { dst := some 40, op := Go.Op.load 179 (Go.Operand.tmp 39), type := 179, pos := "stage.go:164", after := #[{ on := 2, ground := Go.Ground.data }], guard := none }) (v := viewV rp) rfl (by kernel_rfl) (fun _ _ _ h => h) (Or.inl ⟨by rfl, fun W hW => ?_⟩) hS ?_
        · (have hw1 : W.cell? ⟨sp, 0, none⟩ = some (.pointer (some ⟨rp, 0, none⟩)) := hW); go_simp; (try go_bits); (try rw [if_pos (by omega)]); (try with_reducible rfl)
        (try simp only [Act.put, List.setIfInBounds_toArray, List.set_cons_succ, List.set_cons_zero])
        refine wpE_take (i := 4) (oi := { dst := some 41, op := Go.Op.move (Go.Operand.tmp 5), type := 3, pos := "stage.go:164", after := #[], guard := none }) (v := ?_) rfl (by kernel_rfl) (fun _ _ _ h => h) (Or.inl ⟨by rfl, fun W hW => ?_⟩) hS ?_
        rotate_left
        · (have hw1 : W.cell? ⟨sp, 0, none⟩ = some (.pointer (some ⟨rp, 0, none⟩)) := hW); go_simp; (try go_bits); (try rw [if_pos (by omega)]); (try with_reducible rfl)
        (try simp only [Act.put, List.setIfInBounds_toArray, List.set_cons_succ, List.set_cons_zero])
        refine wpE_take (i := 5) (oi := { dst := some 42, op := Go.Op.move (Go.Operand.tmp 7), type := 30, pos := "stage.go:164", after := #[], guard := none }) (v := ?_) rfl (by kernel_rfl) (fun _ _ _ h => h) (Or.inl ⟨by rfl, fun W hW => ?_⟩) hS ?_
        rotate_left
        · (have hw1 : W.cell? ⟨sp, 0, none⟩ = some (.pointer (some ⟨rp, 0, none⟩)) := hW); go_simp; (try go_bits); (try rw [if_pos (by omega)]); (try with_reducible rfl)
        (try simp only [Act.put, List.setIfInBounds_toArray, List.set_cons_succ, List.set_cons_zero])
        refine wpE_take (i := 6) (oi := { dst := some 43, op := Go.Op.move (Go.Operand.tmp 0), type := 59, pos := "stage.go:164", after := #[], guard := none }) (v := ?_) rfl (by kernel_rfl) (fun _ _ _ h => h) (Or.inl ⟨by rfl, fun W hW => ?_⟩) hS ?_
        rotate_left
        · (have hw1 : W.cell? ⟨sp, 0, none⟩ = some (.pointer (some ⟨rp, 0, none⟩)) := hW); go_simp; (try go_bits); (try rw [if_pos (by omega)]); (try with_reducible rfl)
        (try simp only [Act.put, List.setIfInBounds_toArray, List.set_cons_succ, List.set_cons_zero])
        refine wpE_take (i := 7) (oi := { dst := some 44, op := Go.Op.nilCheck (Go.Operand.tmp 43), type := 0, pos := "stage.go:164", after := #[{ on := 6, ground := Go.Ground.data }], guard := none }) (v := ?_) rfl (by kernel_rfl) (fun _ _ _ h => h) (Or.inl ⟨by rfl, fun W hW => ?_⟩) hS ?_
        rotate_left
        · (have hw1 : W.cell? ⟨sp, 0, none⟩ = some (.pointer (some ⟨rp, 0, none⟩)) := hW); go_simp; (try go_bits); (try rw [if_pos (by omega)]); (try with_reducible rfl)
        (try simp only [Act.put, List.setIfInBounds_toArray, List.set_cons_succ, List.set_cons_zero])
        refine wpE_take (i := 8) (oi := { dst := some 45, op := Go.Op.fieldAddr 181 (Go.Operand.tmp 44) 0, type := 0, pos := "stage.go:164", after := #[{ on := 7, ground := Go.Ground.data }], guard := none }) (v := ?_) rfl (by kernel_rfl) (fun _ _ _ h => h) (Or.inl ⟨by rfl, fun W hW => ?_⟩) hS ?_
        rotate_left
        · (have hw1 : W.cell? ⟨sp, 0, none⟩ = some (.pointer (some ⟨rp, 0, none⟩)) := hW); go_simp; (try go_bits); (try rw [if_pos (by omega)]); (try with_reducible rfl)
        (try simp only [Act.put, List.setIfInBounds_toArray, List.set_cons_succ, List.set_cons_zero])
        refine wpE_take (i := 9) (oi := { dst := some 46, op := Go.Op.load 179 (Go.Operand.tmp 45), type := 179, pos := "stage.go:164", after := #[{ on := 8, ground := Go.Ground.data }], guard := none }) (v := viewV rp) rfl (by kernel_rfl) (fun _ _ _ h => h) (Or.inl ⟨by rfl, fun W hW => ?_⟩) hS ?_
        · (have hw1 : W.cell? ⟨sp, 0, none⟩ = some (.pointer (some ⟨rp, 0, none⟩)) := hW); go_simp; (try go_bits); (try rw [if_pos (by omega)]); (try with_reducible rfl)
        (try simp only [Act.put, List.setIfInBounds_toArray, List.set_cons_succ, List.set_cons_zero])
        refine wpE_take (i := 10) (oi := { dst := some 47, op := Go.Op.move (Go.Operand.tmp 8), type := 3, pos := "stage.go:164", after := #[], guard := none }) (v := ?_) rfl (by kernel_rfl) (fun _ _ _ h => h) (Or.inl ⟨by rfl, fun W hW => ?_⟩) hS ?_
        rotate_left
        · (have hw1 : W.cell? ⟨sp, 0, none⟩ = some (.pointer (some ⟨rp, 0, none⟩)) := hW); go_simp; (try go_bits); (try rw [if_pos (by omega)]); (try with_reducible rfl)
        (try simp only [Act.put, List.setIfInBounds_toArray, List.set_cons_succ, List.set_cons_zero])
        refine wpE_only (i := 11) (oi := { dst := some 48, op := Go.Op.call { callee := Go.Callee.value (Go.Operand.func 97), args := #[Go.Operand.tmp 46, Go.Operand.tmp 47], argTypes := #[179, 3] }, type := 30, pos := "stage.go:164", after := #[{ on := 9, ground := Go.Ground.data }, { on := 10, ground := Go.Ground.data }], guard := none }) rfl (by kernel_rfl) (by rfl) (fun K hK => ?_)
        go_simp
        refine HNu.out.mono ?_; rintro e w5 ⟨rfl, hS5⟩
        have hG5 := H4.out.2.1.step hS5 (by simp)
        have hS : w5.cell? ⟨sp, 0, none⟩ = some (.pointer (some ⟨rp, 0, none⟩)) := hG5.2.c0.1
        have H5 := Lib.hid (And.intro (H4.out.1.trans (hS5.mono (fun _ h => h.elim))) (And.intro hG5 (hS5.blk H4.out.2.2.1 H4.out.2.2.2 (fun h => h))))
        clear hS5 hG5 H4 HNu
        refine hK _ _ hS ?_; clear hK K
        (try simp only [Act.put, List.setIfInBounds_toArray, List.set_cons_succ, List.set_cons_zero])
        refine wpE_take (i := 12) (oi := { dst := some 49, op := Go.Op.binOp Go.BinOp.shl 30 (Go.Operand.tmp 48) (Go.Operand.const (Go.Value.int Go.IntKind.u64 10)) 64, type := 30, pos := "stage.go:164", after := #[{ on := 11, ground := Go.Ground.data }], guard := none }) (v := .int .u64 ((f * 1024 : Nat) : Int)) rfl (by kernel_rfl) (fun _ _ _ h => h) (Or.inl ⟨by rfl, fun W hW => ?_⟩) hS ?_
        · (have hw1 : W.cell? ⟨sp, 0, none⟩ = some (.pointer (some ⟨rp, 0, none⟩)) := hW); go_simp; (try rw [HOR.out.1]); (try rw [HOR.out.2.1]); (try omega)
        (try simp only [Act.put, List.setIfInBounds_toArray, List.set_cons_succ, List.set_cons_zero])
        refine wpE_take (i := 13) (oi := { dst := some 50, op := Go.Op.binOp Go.BinOp.or 30 (Go.Operand.tmp 49) (Go.Operand.const (Go.Value.int Go.IntKind.u64 1)) 30, type := 30, pos := "stage.go:164", after := #[{ on := 12, ground := Go.Ground.data }], guard := none }) (v := .int .u64 ((f * 1024 + 1 : Nat) : Int)) rfl (by kernel_rfl) (fun _ _ _ h => h) (Or.inl ⟨by rfl, fun W hW => ?_⟩) hS ?_
        · (have hw1 : W.cell? ⟨sp, 0, none⟩ = some (.pointer (some ⟨rp, 0, none⟩)) := hW); go_simp; (try rw [show ((f : Int) * 1024) = ((f * 1024 : Nat) : Int) from by omega]); (try rw [HOR.out.2.2]); (try omega)
        (try simp only [Act.put, List.setIfInBounds_toArray, List.set_cons_succ, List.set_cons_zero])
        refine wpE_last (oi := { dst := some 51, op := Go.Op.call { callee := Go.Callee.value (Go.Operand.func 96), args := #[Go.Operand.tmp 40, Go.Operand.tmp 41, Go.Operand.tmp 42, Go.Operand.tmp 50], argTypes := #[179, 3, 30, 30] }, type := 0, pos := "stage.go:164", after := #[{ on := 3, ground := Go.Ground.data }, { on := 4, ground := Go.Ground.data }, { on := 5, ground := Go.Ground.data }, { on := 13, ground := Go.Ground.data }, { on := 11, ground := Go.Ground.chain }], guard := none }) rfl (by kernel_rfl) (by kernel_rfl) (by rfl) (fun K hK => ?_)
        go_simp
        have hV := view_set H5.out.2.1.1.2 t i ht hi ((f * 1024 + 1 : Nat) : Int) ⟨by omega, by omega⟩
        refine hV.mono ?_; rintro e w6 ⟨rfl, own6, hS6, hM6⟩
        have hP6 := H5.out.2.1.1.1.step hS6 (by omega)
        have hSp6 := H5.out.2.1.2.step hS6 (by omega) (by omega)
        have H6 := Lib.hid (And.intro (H5.out.1.trans (hS6.mono (fun x h => Or.inl h))) (And.intro hP6 (And.intro hM6 (And.intro hSp6 (hS6.blk H5.out.2.2.1 H5.out.2.2.2 (by omega))))))
        clear hV hS6 hP6 hM6 hSp6 hS H5
        refine hK _ _ ?_; clear hK K
        go_wp2
        exact ⟨⟨j + 1, by omega, by go_num, by rw [HN.out], own6, H6.out.1, by rw [HN.out]; exact ⟨⟨H6.out.2.1, H6.out.2.2.1⟩, H6.out.2.2.2.1⟩, H6.out.2.2.2.2⟩, by simp [intOf]; omega⟩
      · have hnx2 : st (j + 1) = (en S.m t i / 1024, S, T) := by rw [hnx]; unfold lvS; rw [if_neg hz]
        have HN := Lib.hid hnx2
        have hne : (((en S.m t i : Nat) : Int) != 0) = true := by simp; omega
        rw [hne] at HB
        clear hnx hnx2 hle hfr hne hz
        generalize en S.m t i = e at *
        go_wp2_with fail
        refine HB.out.mono ?_; rintro e' w3 ⟨rfl, hS3⟩
        have H3 := Lib.hid (And.intro (H2.out.1.trans (hS3.mono (fun _ h => h.elim))) (And.intro (H2.out.2.1.step hS3 (by simp)) (hS3.blk H2.out.2.2.1 H2.out.2.2.2 (fun h => h))))
        clear hS3 HB H2 c0 hpx lpb lsp
        go_wp2
        exact ⟨⟨j + 1, by omega, by go_num, by rw [HN.out]; (try rfl), own1, H3.out.1, by rw [HN.out]; exact H3.out.2.1, H3.out.2.2⟩, by simp [intOf]; omega⟩
    · obtain rfl : j = 2 := by omega
      go_wp2
      go_ret
      obtain ⟨own1, hS, hG, hpB⟩ := HR.out
      exact ⟨rfl, own1, hS, hG⟩
end
end Go.Proofs.Ytpodeclkgcgpgaa
