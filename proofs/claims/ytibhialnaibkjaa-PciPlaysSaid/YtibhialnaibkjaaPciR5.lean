import Derived.Test.YtibhialnaibkjaaPciR4
namespace Go.Proofs.Ytibhialnaibkjaa
set_option linter.unusedVariables false
open Go.RowKit
set_option maxRecDepth 100000

theorem info_slot : (Try.prog.info? 68).map (fun i => (i.zero, i.size, i.bytes)) = some (some (.agg #[.int .i64 0, .int .u64 0, .int .u64 0, .int .u64 0]), 4, 32) := by kernel_rfl
theorem slot_slice (w : World) (kd : Int) : (Instr.buildSlice 50 1 #[(0, .agg #[.int .i64 kd, .int .u64 0, .int .u64 0, .int .u64 0])]).run Try.prog w = .ok (.slice (some ⟨w.heap.size, 0, none⟩) 1 1) (w.alloc (.cells #[.int .i64 kd, .int .u64 0, .int .u64 0, .int .u64 0] 68)) := by
  obtain ⟨ie, hi, hz, hs, hb⟩ := info_parts info_slot
  exact run_buildSlice1 w _ _ ie _ Try.underlying50 hi hz (by omega) (by omega) _ (by rw [hs]; rfl)
/-- the document's slots as they are being appended -/
def RLaid (w : World) (B : Nat) (v : Value) (ks : List Int) : Prop :=
  ∃ xs, w.ownsRow B 68 4 v ks.length xs ∧ ∀ i k, ks[i]? = some k → xs[i * 4]? = some (.int .i64 k) ∧ xs[i * 4 + 1]? = some (.int .u64 0) ∧ xs[i * 4 + 2]? = some (.int .u64 0) ∧ xs[i * 4 + 3]? = some (.int .u64 0)
theorem rlaid_snoc {ks : List Int} {k : Nat} {kd : Int} {xs : List Value} (hk : ks[k]? = some kd) (hl : xs.length = (ks.take k).length * 4)
    (hx : ∀ i k', (ks.take k)[i]? = some k' → xs[i * 4]? = some (.int .i64 k') ∧ xs[i * 4 + 1]? = some (.int .u64 0) ∧ xs[i * 4 + 2]? = some (.int .u64 0) ∧ xs[i * 4 + 3]? = some (.int .u64 0)) :
    ∀ i k', (ks.take (k + 1))[i]? = some k' → (xs ++ [.int .i64 kd, .int .u64 0, .int .u64 0, .int .u64 0])[i * 4]? = some (.int .i64 k') ∧ (xs ++ [.int .i64 kd, .int .u64 0, .int .u64 0, .int .u64 0])[i * 4 + 1]? = some (.int .u64 0) ∧
      (xs ++ [.int .i64 kd, .int .u64 0, .int .u64 0, .int .u64 0])[i * 4 + 2]? = some (.int .u64 0) ∧ (xs ++ [.int .i64 kd, .int .u64 0, .int .u64 0, .int .u64 0])[i * 4 + 3]? = some (.int .u64 0) := by
  have hkl : k < ks.length := (List.getElem?_eq_some_iff.1 hk).1
  have htl : (ks.take k).length = k := by simp; omega
  rw [htl] at hl
  intro i k' hi
  rcases Nat.lt_or_ge i k with h | h
  · have hi' : (ks.take k)[i]? = some k' := by rw [List.getElem?_take, if_pos h]; rw [List.getElem?_take, if_pos (by omega)] at hi; exact hi
    obtain ⟨h1, h2, h3, h4⟩ := hx i k' hi'
    refine ⟨?_, ?_, ?_, ?_⟩ <;> (rw [List.getElem?_append_left (by omega)]; assumption)
  · rw [List.getElem?_take] at hi
    split at hi
    · obtain rfl : i = k := by omega
      rw [hk] at hi; cases hi
      refine ⟨?_, ?_, ?_, ?_⟩ <;> rw [List.getElem?_append_right (by omega), hl]
      · rw [Nat.sub_self]; rfl
      · rw [show i * 4 + 1 - i * 4 = 1 from by omega]; rfl
      · rw [show i * 4 + 2 - i * 4 = 2 from by omega]; rfl
      · rw [show i * 4 + 3 - i * 4 = 3 from by omega]; rfl
    · cases hi
theorem ref_of_laid {w : World} {p B : Nat} {v : Value} {ks : List Int} (hB : Blk w p 52 #[v]) (hL : RLaid w B v ks) (hO : okK ks = true) (hp : B ≤ p) : ∃ q, B ≤ q ∧ q < w.heap.size ∧ RefAt w p q (ks.map fresh) := by
  have hwf : ∀ s ∈ ks.map fresh, s.wf := by
    intro s hs
    obtain ⟨k, hk, rfl⟩ := List.mem_map.1 hs
    exact fresh_wf ((okK_all hO).2 k hk)
  obtain ⟨xs, hown, hx⟩ := hL
  rcases hown.2 with ⟨rfl, h0⟩ | ⟨g, cap, cur, rfl, hg, hb, hn, _, hs, ht⟩
  · have : ks = [] := List.length_eq_zero_iff.1 h0
    subst this
    exact ⟨p, hp, hB.lt, _, hB, hwf, .inl ⟨rfl, rfl⟩⟩
  · refine ⟨g, hg, Blk.lt hb, _, hB, hwf, .inr ⟨cap, cur, by simp, hb, ?_⟩⟩
    intro i s hi
    rw [List.getElem?_map] at hi
    obtain ⟨k, hk, rfl⟩ := Option.map_eq_some_iff.1 hi
    have hil : i < ks.length := (List.getElem?_eq_some_iff.1 hk).1
    obtain ⟨h1, h2, h3, h4⟩ := hx i k hk
    have conv : ∀ j, j < ks.length * 4 → cur[j]? = xs[j]? := by
      intro j hj
      rw [← ht, List.getElem?_take, if_pos hj, Array.getElem?_toList]
    exact ⟨by rw [conv _ (by omega)]; exact h1, by rw [conv _ (by omega)]; exact h2, by rw [conv _ (by omega)]; exact h3, by rw [conv _ (by omega)]; exact h4⟩
def RNewPost (w : World) (ks : List Int) (e : Ending) (w' : World) : Prop :=
  Upd (fun _ => False) w w' ∧ ((okK ks = true ∧ ∃ p q, e = .returned (.tuple #[.pointer (some ⟨p, 0, none⟩), .int .i64 0]) ∧ w.heap.size ≤ p ∧ (w.heap.size ≤ q ∧ q < w'.heap.size) ∧ RefAt w' p q (ks.map fresh)) ∨
    (okK ks = false ∧ e = .returned (.tuple #[.pointer none, .int .i64 1])))
theorem ref_New (A : Option Addr) (cap : Nat) (ks : List Int) (w : World) (hr : Reads w w.heap.size 1 A ks.length (ks.map (.int .i64))) :
    Calls Try.prog 16 #[.slice A ks.length cap] w fun e w' => RNewPost w ks e w' := by
  by_cases hn : ks.length ≤ 8
  · have hn' : (ks.length : Int) ≤ 8 := by omega
    have HR := Lib.hid hr
    clear hr
    obtain ⟨ie, hie, hiz, his, hib⟩ := info_parts info_slot
    go_enter Try.func16, Try.ntmps16
    go_wp2
    go_loopw [5] (fun i wr => ∃ (k : Nat), k ≤ ks.length ∧ i = .int .i64 (k : Int) ∧ Hid (∃ v, Blk wr w.heap.size 52 #[v] ∧ RLaid wr w.heap.size v (ks.take k) ∧ Upd (fun _ => False) w wr) ∧ Hid (okK (ks.take k) = true)) (fun i _ => ks.length - (intOf i).toNat)
    case atStart => exact ⟨0, by omega, rfl, ⟨_, Blk.new _ _ _, ⟨[], World.ownsRow_nil _ _ _ _, fun i k h => by simp at h⟩, (Upd.refl _ _).alloc _⟩, rfl⟩
    case round =>
      obtain ⟨k, hk, rfl, HV, HO⟩ := hrel
      by_cases hlt : k < ks.length
      · obtain ⟨v, hB, ⟨xs, hown, hx⟩, hU⟩ := HV.out
        obtain ⟨ad, u, rfl, hadb, hu, hc⟩ := HR.out.at_ hlt
        obtain ⟨kd, hkd⟩ : ∃ kd, ks[k]? = some kd := ⟨ks[k], List.getElem?_eq_getElem hlt⟩
        have hck : wr.cell? (ad.add k) = some (.int .i64 kd) := by
          rw [hU.cell (by rw [block_of_add]; exact hadb) (fun h => h), hc]
          rw [List.getElem?_map, hkd] at hu; exact hu.symm
        have HK := Lib.hid hkd
        have HF := Lib.hid (And.intro hB (And.intro hown (And.intro hx hU)))
        clear hu hc hkd
        by_cases hok : 0 ≤ kd ∧ kd ≤ 255
        · obtain ⟨hk0, hk1⟩ := hok
          have hB' := hB
          have hb0 : (ad.add k).block < wr.heap.size := by rw [block_of_add]; have := hU.size; omega
          clear hB hown hx hU
          go_wp2
          refine wpE_region (S := fun W => Blk W w.heap.size 52 #[v] ∧ W.cell? (ad.add k) = some (.int .i64 kd)) (s := 14) (by kernel_rfl) ?_
          have hS : (fun W => Blk W w.heap.size 52 #[v] ∧ W.cell? (ad.add k) = some (.int .i64 kd)) _ := ⟨hB'.drew, hck⟩
          refine wpE_take (i := 0) (oi := { dst := some 29, op := Go.Op.move (Go.Operand.tmp 4), type := 45, pos := "ref.go:26", after := #[], guard := none }) (v := ?_) rfl (by kernel_rfl) (fun _ _ _ h => h) (Or.inl ⟨by rfl, fun W hW => ?_⟩) hS ?_
          rotate_left
          · obtain ⟨hw1, hw2⟩ := hW; have hw3 : W.cell? ⟨w.heap.size, 0, none⟩ = some v := hw1.cell 0; go_simp; (try go_bits); (try rw [if_pos (by omega)]); (try with_reducible rfl)
          (try simp only [Act.put, List.setIfInBounds_toArray, List.set_cons_succ, List.set_cons_zero])
          refine wpE_take (i := 1) (oi := { dst := some 30, op := Go.Op.move (Go.Operand.tmp 4), type := 45, pos := "ref.go:26", after := #[], guard := none }) (v := ?_) rfl (by kernel_rfl) (fun _ _ _ h => h) (Or.inl ⟨by rfl, fun W hW => ?_⟩) hS ?_
          rotate_left
          · obtain ⟨hw1, hw2⟩ := hW; have hw3 : W.cell? ⟨w.heap.size, 0, none⟩ = some v := hw1.cell 0; go_simp; (try go_bits); (try rw [if_pos (by omega)]); (try with_reducible rfl)
          (try simp only [Act.put, List.setIfInBounds_toArray, List.set_cons_succ, List.set_cons_zero])
          refine wpE_take (i := 2) (oi := { dst := some 31, op := Go.Op.nilCheck (Go.Operand.tmp 30), type := 0, pos := "ref.go:26", after := #[{ on := 1, ground := Go.Ground.data }], guard := none }) (v := ?_) rfl (by kernel_rfl) (fun _ _ _ h => h) (Or.inl ⟨by rfl, fun W hW => ?_⟩) hS ?_
          rotate_left
          · obtain ⟨hw1, hw2⟩ := hW; have hw3 : W.cell? ⟨w.heap.size, 0, none⟩ = some v := hw1.cell 0; go_simp; (try go_bits); (try rw [if_pos (by omega)]); (try with_reducible rfl)
          (try simp only [Act.put, List.setIfInBounds_toArray, List.set_cons_succ, List.set_cons_zero])
          refine wpE_take (i := 3) (oi := { dst := some 32, op := Go.Op.fieldAddr 52 (Go.Operand.tmp 31) 0, type := 0, pos := "ref.go:26", after := #[{ on := 2, ground := Go.Ground.data }], guard := none }) (v := ?_) rfl (by kernel_rfl) (fun _ _ _ h => h) (Or.inl ⟨by rfl, fun W hW => ?_⟩) hS ?_
          rotate_left
          · obtain ⟨hw1, hw2⟩ := hW; have hw3 : W.cell? ⟨w.heap.size, 0, none⟩ = some v := hw1.cell 0; go_simp; (try go_bits); (try rw [if_pos (by omega)]); (try with_reducible rfl)
          (try simp only [Act.put, List.setIfInBounds_toArray, List.set_cons_succ, List.set_cons_zero])
          refine wpE_take (i := 4) (oi := { dst := some 33, op := Go.Op.load 50 (Go.Operand.tmp 32), type := 50, pos := "ref.go:26", after := #[{ on := 3, ground := Go.Ground.data }], guard := none }) (v := ?_) rfl (by kernel_rfl) (fun _ _ _ h => h) (Or.inl ⟨by rfl, fun W hW => ?_⟩) hS ?_
          rotate_left
          · obtain ⟨hw1, hw2⟩ := hW; have hw3 : W.cell? ⟨w.heap.size, 0, none⟩ = some v := hw1.cell 0; go_simp; (try go_bits); (try rw [if_pos (by omega)]); (try with_reducible rfl)
          (try simp only [Act.put, List.setIfInBounds_toArray, List.set_cons_succ, List.set_cons_zero])
          refine wpE_take (i := 5) (oi := { dst := some 34, op := Go.Op.move (Go.Operand.tmp 0), type := 28, pos := "ref.go:26", after := #[], guard := none }) (v := ?_) rfl (by kernel_rfl) (fun _ _ _ h => h) (Or.inl ⟨by rfl, fun W hW => ?_⟩) hS ?_
          rotate_left
          · obtain ⟨hw1, hw2⟩ := hW; have hw3 : W.cell? ⟨w.heap.size, 0, none⟩ = some v := hw1.cell 0; go_simp; (try go_bits); (try rw [if_pos (by omega)]); (try with_reducible rfl)
          (try simp only [Act.put, List.setIfInBounds_toArray, List.set_cons_succ, List.set_cons_zero])
          refine wpE_take (i := 6) (oi := { dst := some 35, op := Go.Op.move (Go.Operand.tmp 5), type := 3, pos := "ref.go:26", after := #[], guard := none }) (v := ?_) rfl (by kernel_rfl) (fun _ _ _ h => h) (Or.inl ⟨by rfl, fun W hW => ?_⟩) hS ?_
          rotate_left
          · obtain ⟨hw1, hw2⟩ := hW; have hw3 : W.cell? ⟨w.heap.size, 0, none⟩ = some v := hw1.cell 0; go_simp; (try go_bits); (try rw [if_pos (by omega)]); (try with_reducible rfl)
          (try simp only [Act.put, List.setIfInBounds_toArray, List.set_cons_succ, List.set_cons_zero])
          refine wpE_take (i := 7) (oi := { dst := some 36, op := Go.Op.indexAddr 28 (Go.Operand.tmp 34) (Go.Operand.tmp 35), type := 0, pos := "ref.go:26", after := #[{ on := 5, ground := Go.Ground.data }, { on := 6, ground := Go.Ground.data }], guard := none }) (v := ?_) rfl (by kernel_rfl) (fun _ _ _ h => h) (Or.inl ⟨by rfl, fun W hW => ?_⟩) hS ?_
          rotate_left
          · obtain ⟨hw1, hw2⟩ := hW; have hw3 : W.cell? ⟨w.heap.size, 0, none⟩ = some v := hw1.cell 0; go_simp; (try go_bits); (try rw [if_pos (by omega)]); (try with_reducible rfl)
          (try simp only [Act.put, List.setIfInBounds_toArray, List.set_cons_succ, List.set_cons_zero])
          refine wpE_take (i := 8) (oi := { dst := some 37, op := Go.Op.load 3 (Go.Operand.tmp 36), type := 3, pos := "ref.go:26", after := #[{ on := 7, ground := Go.Ground.data }], guard := none }) (v := ?_) rfl (by kernel_rfl) (fun _ _ _ h => h) (Or.inl ⟨by rfl, fun W hW => ?_⟩) hS ?_
          rotate_left
          · obtain ⟨hw1, hw2⟩ := hW; have hw3 : W.cell? ⟨w.heap.size, 0, none⟩ = some v := hw1.cell 0; go_simp; (try go_bits); (try rw [if_pos (by omega)]); (try with_reducible rfl)
          (try simp only [Act.put, List.setIfInBounds_toArray, List.set_cons_succ, List.set_cons_zero])
          refine wpE_take (i := 9) (oi := { dst := some 38, op := Go.Op.build 68 #[(0, Go.Operand.tmp 37)], type := 68, pos := "ref.go:26", after := #[{ on := 8, ground := Go.Ground.data }], guard := none }) (v := ?_) rfl (by kernel_rfl) (fun _ _ _ h => h) (Or.inl ⟨by rfl, fun W hW => ?_⟩) hS ?_
          rotate_left
          · obtain ⟨hw1, hw2⟩ := hW; have hw3 : W.cell? ⟨w.heap.size, 0, none⟩ = some v := hw1.cell 0; go_simp; (try go_bits); (try rw [if_pos (by omega)]); (try with_reducible rfl)
          (try simp only [Act.put, List.setIfInBounds_toArray, List.set_cons_succ, List.set_cons_zero])
          refine wpE_only (i := 10) (oi := { dst := some 39, op := Go.Op.buildSlice 50 1 #[(0, Go.Operand.tmp 38)], type := 50, pos := "ref.go:26", after := #[{ on := 9, ground := Go.Ground.data }], guard := none }) rfl (by kernel_rfl) (by rfl) (fun K hK => ?_)
          refine wp_run (exec_buildSlice1 rfl (.agg #[.int .i64 kd, .int .u64 0, .int .u64 0, .int .u64 0]) rfl (slot_slice _ _)) ?_
          obtain ⟨h1, h2⟩ := hS
          have hS := And.intro (h1.alloc (.cells #[.int .i64 kd, .int .u64 0, .int .u64 0, .int .u64 0] 68)) (show (wr.drew.alloc (.cells #[.int .i64 kd, .int .u64 0, .int .u64 0, .int .u64 0] 68)).cell? (ad.add k) = some (.int .i64 kd) from (World.cell?_alloc_lt _ _ _ (by exact hb0)).trans h2)
          refine hK _ _ hS ?_; clear hK K
          (try simp only [Act.put, List.setIfInBounds_toArray, List.set_cons_succ, List.set_cons_zero])
          refine wpE_only (i := 11) (oi := { dst := some 40, op := Go.Op.call { callee := Go.Callee.builtin Go.Builtin.append, args := #[Go.Operand.tmp 33, Go.Operand.tmp 39], argTypes := #[50, 50] }, type := 50, pos := "ref.go:26", after := #[{ on := 4, ground := Go.Ground.data }, { on := 10, ground := Go.Ground.data }], guard := none }) rfl (by kernel_rfl) (by rfl) (fun K hK => ?_)
          obtain ⟨hB, hown, hx, hU⟩ := HF.out
          refine wp_append_lies _ (.tmp 33) (.tmp 39) _ rfl w.heap.size 68 ie _ 4 32 Try.underlying50 hie hiz his hib rfl (by omega) v _ xs rfl (hown.drew.alloc _) ⟨wr.heap.size, 0, none⟩ 1 1 [.int .i64 kd, .int .u64 0, .int .u64 0, .int .u64 0] rfl rfl ?_ ?_ (by omega) ?_ ?_ ?_ _ rfl ?_
          exact cells_new _ #[.int .i64 kd, .int .u64 0, .int .u64 0, .int .u64 0] _
          simp [Value.oneCell']
          simp only [List.length_take, maxLen]; omega
          simp only [List.length_take]; omega
          simp; exact Nat.le_succ_of_le (Nat.le_of_lt hB.lt)
          intro g cap' w11 hown11 hg11 hgat hglt
          obtain ⟨h1, h2⟩ := hS
          have hvb : ∀ g', v.ownBlock = some g' → w.heap.size ≤ g' := fun g' e => (hown.lt g' e).1
          have hS := And.intro (h1.grown hg11 (fun e => own_blk_ne hown hB (by decide) e.symm)) (show w11.cell? (ad.add k) = some (.int .i64 kd) from hg11.cell h2 (fun e => by have := hvb _ e.symm; rw [block_of_add] at this; omega))
          have hU11 : Upd (fun _ => False) w w11 := ((hU.drew.alloc _).grown hg11 (fun g' e => .inr (hown.lt g' e).1))
          have HL := Lib.hid (And.intro hown11 (And.intro (rlaid_snoc HK.out hown.1 hx) hU11))
          clear hB hown hx hU hown11 hg11 hgat hglt hU11 hvb
          refine hK _ _ hS ?_; clear hK K
          (try simp only [Act.put, List.setIfInBounds_toArray, List.set_cons_succ, List.set_cons_zero])
          refine wpE_take (i := 12) (oi := { dst := some 41, op := Go.Op.nilCheck (Go.Operand.tmp 29), type := 0, pos := "ref.go:26", after := #[{ on := 0, ground := Go.Ground.data }, { on := 0, ground := Go.Ground.phase }, { on := 1, ground := Go.Ground.phase }, { on := 2, ground := Go.Ground.phase }, { on := 3, ground := Go.Ground.phase }, { on := 4, ground := Go.Ground.phase }, { on := 5, ground := Go.Ground.phase }, { on := 6, ground := Go.Ground.phase }, { on := 7, ground := Go.Ground.phase }, { on := 8, ground := Go.Ground.phase }, { on := 9, ground := Go.Ground.phase }, { on := 10, ground := Go.Ground.phase }, { on := 11, ground := Go.Ground.phase }], guard := none }) (v := ?_) rfl (by kernel_rfl) (fun _ _ _ h => h) (Or.inl ⟨by rfl, fun W hW => ?_⟩) hS ?_
          rotate_left
          · obtain ⟨hw1, hw2⟩ := hW; have hw3 : W.cell? ⟨w.heap.size, 0, none⟩ = some v := hw1.cell 0; go_simp; (try go_bits); (try rw [if_pos (by omega)]); (try with_reducible rfl)
          (try simp only [Act.put, List.setIfInBounds_toArray, List.set_cons_succ, List.set_cons_zero])
          refine wpE_take (i := 13) (oi := { dst := some 42, op := Go.Op.fieldAddr 52 (Go.Operand.tmp 41) 0, type := 0, pos := "ref.go:26", after := #[{ on := 12, ground := Go.Ground.data }, { on := 0, ground := Go.Ground.phase }, { on := 1, ground := Go.Ground.phase }, { on := 2, ground := Go.Ground.phase }, { on := 3, ground := Go.Ground.phase }, { on := 4, ground := Go.Ground.phase }, { on := 5, ground := Go.Ground.phase }, { on := 6, ground := Go.Ground.phase }, { on := 7, ground := Go.Ground.phase }, { on := 8, ground := Go.Ground.phase }, { on := 9, ground := Go.Ground.phase }, { on := 10, ground := Go.Ground.phase }, { on := 11, ground := Go.Ground.phase }], guard := none }) (v := ?_) rfl (by kernel_rfl) (fun _ _ _ h => h) (Or.inl ⟨by rfl, fun W hW => ?_⟩) hS ?_
          rotate_left
          · obtain ⟨hw1, hw2⟩ := hW; have hw3 : W.cell? ⟨w.heap.size, 0, none⟩ = some v := hw1.cell 0; go_simp; (try go_bits); (try rw [if_pos (by omega)]); (try with_reducible rfl)
          (try simp only [Act.put, List.setIfInBounds_toArray, List.set_cons_succ, List.set_cons_zero])
          refine wpE_last (oi := { dst := none, op := Go.Op.store 50 (Go.Operand.tmp 42) (Go.Operand.tmp 40), type := 0, pos := "ref.go:26", after := #[{ on := 13, ground := Go.Ground.data }, { on := 11, ground := Go.Ground.data }, { on := 11, ground := Go.Ground.chain }, { on := 0, ground := Go.Ground.phase }, { on := 1, ground := Go.Ground.phase }, { on := 2, ground := Go.Ground.phase }, { on := 3, ground := Go.Ground.phase }, { on := 4, ground := Go.Ground.phase }, { on := 5, ground := Go.Ground.phase }, { on := 6, ground := Go.Ground.phase }, { on := 7, ground := Go.Ground.phase }, { on := 8, ground := Go.Ground.phase }, { on := 9, ground := Go.Ground.phase }, { on := 10, ground := Go.Ground.phase }, { on := 11, ground := Go.Ground.phase }], guard := none }) rfl (by kernel_rfl) (by kernel_rfl) (by rfl) (fun K hK => ?_)
          obtain ⟨h1, h2⟩ := hS
          have hw3 : w11.cell? ⟨w.heap.size, 0, none⟩ = some v := h1.cell 0
          have hw4 : w11.frozen? ⟨w.heap.size, 0, none⟩ = false := h1.frozen 0
          go_simp
          refine hK _ _ ?_; clear hK K hw3 hw4
          go_wp2
          obtain ⟨hown11, hx11, hU11⟩ := HL.out
          have hne : (Value.slice (some ⟨g, 0, none⟩) ((ks.take k).length + 1) cap').ownBlock ≠ some w.heap.size := own_blk_ne hown11 h1 (by decide)
          have htl : (ks.take k).length = k := by simp; omega
          have hown12 := ownsRow_setCell_other hown11 (a := ⟨w.heap.size, 0, none⟩) hne (.slice (some ⟨g, 0, none⟩) (k + 1) cap')
          refine ⟨⟨k + 1, by omega, by go_num, ⟨_, (by simpa using h1.set_ 0 (.slice (some ⟨g, 0, none⟩) (k + 1) cap')), ⟨_, ?_, hx11⟩, hU11.setCell (.inr (Nat.le_refl _)) _⟩, okK_snoc HK.out hn HO.out hk0 hk1⟩, by simp [intOf]; omega⟩
          rw [htl] at hown12
          rw [show (ks.take (k + 1)).length = k + 1 from by simp; omega]
          exact hown12
        · have hbad : kd < 0 ∨ 255 < kd := by omega
          have HU := Lib.hid (And.intro hU (okK_bad HK.out hok))
          clear hB hown hx hU hok
          rcases hbad with hbad | hbad
          · go_wp2
            go_ret2
            exact ⟨HU.out.1, .inr ⟨HU.out.2, rfl⟩⟩
          · have hbad' : ¬ kd < 0 := by omega
            go_wp2
            go_ret2
            exact ⟨HU.out.1, .inr ⟨HU.out.2, rfl⟩⟩
      · obtain rfl : k = ks.length := by omega
        go_wp2
        go_ret2
        obtain ⟨v, hB, hL, hU⟩ := HV.out
        have hO := HO.out
        rw [List.take_length] at hL hO
        obtain ⟨q, hq, hql, hbus⟩ := ref_of_laid hB hL hO (Nat.le_refl _)
        exact ⟨hU, .inl ⟨hO, _, q, rfl, Nat.le_refl _, ⟨hq, hql⟩, hbus⟩⟩
  · have hn' : (8 : Int) < ks.length := by omega
    have hO : okK ks = false := by simp [okK]; omega
    have HO := Lib.hid hO
    clear hO hr
    go_enter Try.func16, Try.ntmps16
    go_wp2
    go_ret2
    exact ⟨Upd.refl _ _, .inr ⟨HO.out, rfl⟩⟩
end Go.Proofs.Ytibhialnaibkjaa
