import Derived.Test.YtonhlgfgbdiapaaMref5
import Derived.Laws.Tables
import Derived.Laws.CopyOwn
import Derived.Deep.WholeRow
/- A memory's copy. -/
namespace Go.Proofs.Ytonhlgfgbdiapaa
set_option linter.unusedVariables false
set_option linter.unusedSimpArgs false
open Go.RowKit
set_option maxRecDepth 100000

theorem MemIn.put_frame {K : MK} {own : Nat → Nat} {c p q base g k : Nat} {fs : List (Option Nat)} {m f : Nat → Int} {w w1 : World} {cs : Array Value} (h : MemIn K own c w p q base fs m) (hf : fs[k]? = some none)
    (hU : Upd (fun _ => False) w w1) (hB : Blk w1 g K.tb cs) (hg : w.heap.size ≤ g) (hcs : cs.size = 4096) (hcf : ∀ j, j < 4096 → cs[j]? = some (.int .u8 (f (k * 4096 + j)))) (hbd : ∀ x, 0 ≤ f x ∧ f x < 256) :
    Step (· = c) own w (ext own w c) (w1.setCell ⟨q, k, none⟩ (K.ptr (some g))) ∧ MemIn K (ext own w c) c (w1.setCell ⟨q, k, none⟩ (K.ptr (some g))) p q base (fs.set k (some g)) (fun x => if x / 4096 = k then f x else m x) := by
  have hk : k < fs.length := by
    rcases Nat.lt_or_ge k fs.length with h | h
    · exact h
    · rw [List.getElem?_eq_none h] at hf; cases hf
  have hU1 : Upd (fun b => own b = c) w (w1.setCell ⟨q, k, none⟩ (K.ptr (some g))) := (hU.mono (fun _ _ h => h.elim)).setCell (.inl h.oq) _
  refine ⟨⟨hU1, fun b hb => ext_old _ _ _ hb⟩, ?_⟩
  have h1 : MemIn K (ext own w c) c w1 p q base fs m := h.step (C := fun _ => False) ⟨hU, fun b hb => ext_old _ _ _ hb⟩ (fun h => h)
  have hgq : g ≠ q := hB.ne_ h1.bq K.qb.symm
  refine ⟨?_, h1.op, ?_, h1.oq, fun j b' hj => ?_, fun j hj i hi => ?_, fun i j b hi hj => ?_, fun x => ?_, h.hb, by simpa using h.hn⟩
  · rw [List.length_set]; exact h1.bp.far (h1.bp.ne_ h1.bq K.pq) _
  · have := h1.bq.set_ k (K.ptr (some g))
    have e : ((fs.set k (some g)).map K.ptr).toArray = (fs.map K.ptr).toArray.setIfInBounds k (K.ptr (some g)) := by simp [List.map_set]
    rw [e]; exact this
  · rw [List.getElem?_set] at hj
    split at hj
    · rename_i e
      subst e
      obtain rfl : g = b' := by simpa [hk] using hj
      refine ⟨ext_new _ _ _ hg, cs, hB.far hgq _, hcs, fun i hi => ?_⟩
      show cs[i]? = some (.int .u8 (if (k * 4096 + i) / 4096 = k then f (k * 4096 + i) else m (k * 4096 + i)))
      rw [if_pos (by omega)]; exact hcf i hi
    · rename_i e
      obtain ⟨ho', cs', hb', hs', hc'⟩ := h1.there j b' hj
      refine ⟨ho', cs', hb'.far (hb'.ne_ h1.bq K.qb.symm) _, hs', fun i hi => ?_⟩
      show cs'[i]? = some (.int .u8 (if (j * 4096 + i) / 4096 = k then f (j * 4096 + i) else m (j * 4096 + i)))
      rw [if_neg (by omega)]; exact hc' _ hi
  · rw [List.getElem?_set] at hj
    split at hj
    · rename_i e
      subst e
      simp [hk] at hj
    · show (if (j * 4096 + i) / 4096 = k then f (j * 4096 + i) else m (j * 4096 + i)) = 0
      rw [if_neg (by omega)]; exact h1.gone j hj i hi
  · have hlt : ∀ k b, fs[k]? = some (some b) → b < w.heap.size := fun k b hk => (h.there k b hk).2.lt
    rw [List.getElem?_set] at hi hj
    split at hi <;> split at hj
    · omega
    · have := hlt _ _ hj
      simp [hk] at hi; omega
    · have := hlt _ _ hi
      simp [hk] at hj; omega
    · exact h1.apart _ _ _ hi hj
  · show 0 ≤ (if x / 4096 = k then f x else m x) ∧ (if x / 4096 = k then f x else m x) < 256
    split
    · exact hbd x
    · exact h.bd x
theorem MemIn.cong {K : MK} {own : Nat → Nat} {c p q base : Nat} {fs : List (Option Nat)} {m m' : Nat → Int} {w : World} (h : MemIn K own c w p q base fs m) (he : ∀ x, x / 4096 < fs.length → m' x = m x) (hb : ∀ x, 0 ≤ m' x ∧ m' x < 256) : MemIn K own c w p q base fs m' :=
  { h with
    there := fun k b hk => by
      have hl : k < fs.length := (List.getElem?_eq_some_iff.1 hk).1
      obtain ⟨ho, cs, h1, h2, h3⟩ := h.there k b hk
      exact ⟨ho, cs, h1, h2, fun j hj => by rw [he _ (by omega)]; exact h3 j hj⟩
    gone := fun k hk j hj => by
      have hl : k < fs.length := (List.getElem?_eq_some_iff.1 hk).1
      rw [he _ (by omega)]; exact h.gone k hk j hj
    bd := hb }
theorem info_frame : (Try.prog.info? 99).map (·.size) = some 4096 := by kernel_rfl
theorem under_frame : Try.prog.underlying 99 = some (.array 4096 5) := by kernel_rfl
set_option maxHeartbeats 4000000 in
theorem ram_Copy {own : Nat → Nat} {c p n d : Nat} {m : Nat → Int} {w : World} (h : MemAt ramK own c w p 0 n m) (hcd : c ≠ d) :
    Calls Try.prog 19 #[.pointer (some ⟨p, 0, none⟩)] w fun e w' => ∃ p' own', e = .returned (.pointer (some ⟨p', 0, none⟩)) ∧ Step (fun _ => False) own w own' w' ∧ MemAt ramK own' d w' p' 0 n m := by
  have hn := h.sizes.2
  obtain ⟨q, fs, h, rfl⟩ := h
  have h0 : w.cell? ⟨p, 0, none⟩ = some (.int .u64 0) := h.bp.cell 0
  have h1 : w.cell? ⟨p, 1, none⟩ = some (.slice (some ⟨q, 0, none⟩) fs.length fs.length) := h.bp.cell 1
  have hlp := h.bp.lt
  have HR := Lib.hid h
  have hfr := MemIn.fresh ramK (own := own) (w := w.drew) d 0 fs.length (by omega) hn.1 hn.2
  have HF := Lib.hid hfr
  have hn2 := hn.2
  clear h hfr hn
  go_enter Try.func19, Try.ntmps19
  go_wp2_with fail
  refine wpE_region (S := fun (W' : World) => W'.cell? ⟨p, 0, none⟩ = some (.int .u64 0) ∧ W'.cell? ⟨p, 1, none⟩ = some (.slice (some ⟨q, 0, none⟩) fs.length fs.length)) (s := 12) (by kernel_rfl) ?_
  have hS : (fun (W' : World) => W'.cell? ⟨p, 0, none⟩ = some (.int .u64 0) ∧ W'.cell? ⟨p, 1, none⟩ = some (.slice (some ⟨q, 0, none⟩) fs.length fs.length)) _ := ⟨h0, h1⟩
  refine wpE_take (i := 0) (oi := { dst := some 7, op := Go.Op.move (Go.Operand.tmp 0), type := 24, pos := "ram.go:119", after := #[], guard := none }) (v := ?_) rfl (by kernel_rfl) (fun _ _ _ h => h) (Or.inl ⟨by rfl, fun W hW => ?_⟩) hS ?_
  rotate_left
  · (obtain ⟨hw1, hw2⟩ := hW); go_simp; (try go_bits); (try rw [if_pos (by omega)]); (try with_reducible rfl)
  (try simp only [Act.put, List.setIfInBounds_toArray, List.set_cons_succ, List.set_cons_zero])
  refine wpE_take (i := 1) (oi := { dst := some 8, op := Go.Op.nilCheck (Go.Operand.tmp 7), type := 0, pos := "ram.go:119", after := #[{ on := 0, ground := Go.Ground.data }], guard := none }) (v := ?_) rfl (by kernel_rfl) (fun _ _ _ h => h) (Or.inl ⟨by rfl, fun W hW => ?_⟩) hS ?_
  rotate_left
  · (obtain ⟨hw1, hw2⟩ := hW); go_simp; (try go_bits); (try rw [if_pos (by omega)]); (try with_reducible rfl)
  (try simp only [Act.put, List.setIfInBounds_toArray, List.set_cons_succ, List.set_cons_zero])
  refine wpE_take (i := 2) (oi := { dst := some 9, op := Go.Op.fieldAddr 96 (Go.Operand.tmp 8) 0, type := 0, pos := "ram.go:119", after := #[{ on := 1, ground := Go.Ground.data }], guard := none }) (v := ?_) rfl (by kernel_rfl) (fun _ _ _ h => h) (Or.inl ⟨by rfl, fun W hW => ?_⟩) hS ?_
  rotate_left
  · (obtain ⟨hw1, hw2⟩ := hW); go_simp; (try go_bits); (try rw [if_pos (by omega)]); (try with_reducible rfl)
  (try simp only [Act.put, List.setIfInBounds_toArray, List.set_cons_succ, List.set_cons_zero])
  refine wpE_take (i := 3) (oi := { dst := some 10, op := Go.Op.load 22 (Go.Operand.tmp 9), type := 22, pos := "ram.go:119", after := #[{ on := 2, ground := Go.Ground.data }], guard := none }) (v := ?_) rfl (by kernel_rfl) (fun _ _ _ h => h) (Or.inl ⟨by rfl, fun W hW => ?_⟩) hS ?_
  rotate_left
  · (obtain ⟨hw1, hw2⟩ := hW); go_simp; (try go_bits); (try rw [if_pos (by omega)]); (try with_reducible rfl)
  (try simp only [Act.put, List.setIfInBounds_toArray, List.set_cons_succ, List.set_cons_zero])
  refine wpE_take (i := 4) (oi := { dst := some 11, op := Go.Op.move (Go.Operand.tmp 0), type := 24, pos := "ram.go:119", after := #[], guard := none }) (v := ?_) rfl (by kernel_rfl) (fun _ _ _ h => h) (Or.inl ⟨by rfl, fun W hW => ?_⟩) hS ?_
  rotate_left
  · (obtain ⟨hw1, hw2⟩ := hW); go_simp; (try go_bits); (try rw [if_pos (by omega)]); (try with_reducible rfl)
  (try simp only [Act.put, List.setIfInBounds_toArray, List.set_cons_succ, List.set_cons_zero])
  refine wpE_take (i := 5) (oi := { dst := some 12, op := Go.Op.nilCheck (Go.Operand.tmp 11), type := 0, pos := "ram.go:119", after := #[{ on := 4, ground := Go.Ground.data }], guard := none }) (v := ?_) rfl (by kernel_rfl) (fun _ _ _ h => h) (Or.inl ⟨by rfl, fun W hW => ?_⟩) hS ?_
  rotate_left
  · (obtain ⟨hw1, hw2⟩ := hW); go_simp; (try go_bits); (try rw [if_pos (by omega)]); (try with_reducible rfl)
  (try simp only [Act.put, List.setIfInBounds_toArray, List.set_cons_succ, List.set_cons_zero])
  refine wpE_take (i := 6) (oi := { dst := some 13, op := Go.Op.fieldAddr 96 (Go.Operand.tmp 12) 1, type := 0, pos := "ram.go:119", after := #[{ on := 5, ground := Go.Ground.data }], guard := none }) (v := ?_) rfl (by kernel_rfl) (fun _ _ _ h => h) (Or.inl ⟨by rfl, fun W hW => ?_⟩) hS ?_
  rotate_left
  · (obtain ⟨hw1, hw2⟩ := hW); go_simp; (try go_bits); (try rw [if_pos (by omega)]); (try with_reducible rfl)
  (try simp only [Act.put, List.setIfInBounds_toArray, List.set_cons_succ, List.set_cons_zero])
  refine wpE_take (i := 7) (oi := { dst := some 14, op := Go.Op.load 94 (Go.Operand.tmp 13), type := 94, pos := "ram.go:119", after := #[{ on := 6, ground := Go.Ground.data }], guard := none }) (v := ?_) rfl (by kernel_rfl) (fun _ _ _ h => h) (Or.inl ⟨by rfl, fun W hW => ?_⟩) hS ?_
  rotate_left
  · (obtain ⟨hw1, hw2⟩ := hW); go_simp; (try go_bits); (try rw [if_pos (by omega)]); (try with_reducible rfl)
  (try simp only [Act.put, List.setIfInBounds_toArray, List.set_cons_succ, List.set_cons_zero])
  refine wpE_take (i := 8) (oi := { dst := some 15, op := Go.Op.call { callee := Go.Callee.builtin Go.Builtin.len, args := #[Go.Operand.tmp 14], argTypes := #[94] }, type := 3, pos := "ram.go:119", after := #[{ on := 7, ground := Go.Ground.data }], guard := none }) (v := ?_) rfl (by kernel_rfl) (fun _ _ _ h => h) (Or.inl ⟨by rfl, fun W hW => ?_⟩) hS ?_
  rotate_left
  · (obtain ⟨hw1, hw2⟩ := hW); go_simp; (try go_bits); (try rw [if_pos (by omega)]); (try with_reducible rfl)
  (try simp only [Act.put, List.setIfInBounds_toArray, List.set_cons_succ, List.set_cons_zero])
  refine wpE_only (i := 9) (oi := { dst := some 16, op := Go.Op.makeSlice 94 (Go.Operand.tmp 15) (Go.Operand.tmp 15), type := 94, pos := "ram.go:119", after := #[{ on := 8, ground := Go.Ground.data }, { on := 8, ground := Go.Ground.data }], guard := none }) rfl (by kernel_rfl) (by rfl) (fun K hK => ?_)
  refine wp_run (exec_make rfl _ _ rfl rfl (framep_make fs.length hn2 _)) ?_
  have hS : (w.drew.alloc (.cells (Array.replicate fs.length (.pointer none)) 97)).cell? ⟨p, 0, none⟩ = some (.int .u64 0) ∧ (w.drew.alloc (.cells (Array.replicate fs.length (.pointer none)) 97)).cell? ⟨p, 1, none⟩ = some (.slice (some ⟨q, 0, none⟩) fs.length fs.length) :=
  ⟨(((Upd.refl (fun _ => False) w.drew).alloc _).cell (p := ⟨p, 0, none⟩) hlp (fun h => h)).trans h0, (((Upd.refl (fun _ => False) w.drew).alloc _).cell (p := ⟨p, 1, none⟩) hlp (fun h => h)).trans h1⟩
  refine hK _ _ hS ?_; clear hK K
  (try simp only [Act.put, List.setIfInBounds_toArray, List.set_cons_succ, List.set_cons_zero])
  refine wpE_take (i := 10) (oi := { dst := some 17, op := Go.Op.build 96 #[(0, Go.Operand.tmp 10), (1, Go.Operand.tmp 16)], type := 96, pos := "ram.go:119", after := #[{ on := 3, ground := Go.Ground.data }, { on := 9, ground := Go.Ground.data }], guard := none }) (v := ?_) rfl (by kernel_rfl) (fun _ _ _ h => h) (Or.inl ⟨by rfl, fun W hW => ?_⟩) hS ?_
  rotate_left
  · (obtain ⟨hw1, hw2⟩ := hW); go_simp; (try go_bits); (try rw [if_pos (by omega)]); (try with_reducible rfl)
  (try simp only [Act.put, List.setIfInBounds_toArray, List.set_cons_succ, List.set_cons_zero])
  refine wpE_only (i := 11) (oi := { dst := some 18, op := Go.Op.box 96 (Go.Operand.tmp 17), type := 24, pos := "ram.go:119", after := #[{ on := 10, ground := Go.Ground.data }], guard := none }) rfl (by kernel_rfl) (by rfl) (fun K hK => ?_)
  go_simp
  have hS : ((w.drew.alloc (.cells (Array.replicate fs.length (.pointer none)) 97)).alloc (.cells #[.int .u64 0, .slice (some ⟨w.heap.size, 0, none⟩) fs.length fs.length] 96)).cell? ⟨p, 0, none⟩ = some (.int .u64 0) ∧ ((w.drew.alloc (.cells (Array.replicate fs.length (.pointer none)) 97)).alloc (.cells #[.int .u64 0, .slice (some ⟨w.heap.size, 0, none⟩) fs.length fs.length] 96)).cell? ⟨p, 1, none⟩ = some (.slice (some ⟨q, 0, none⟩) fs.length fs.length) :=
  ⟨((((Upd.refl (fun _ => False) w.drew).alloc _).alloc _).cell (p := ⟨p, 0, none⟩) hlp (fun h => h)).trans h0, ((((Upd.refl (fun _ => False) w.drew).alloc _).alloc _).cell (p := ⟨p, 1, none⟩) hlp (fun h => h)).trans h1⟩
  refine hK _ _ hS ?_; clear hK K
  (try simp only [Act.put, List.setIfInBounds_toArray, List.set_cons_succ, List.set_cons_zero])
  refine wpE_last (oi := { dst := some 3, op := Go.Op.assign (Go.Operand.tmp 18), type := 24, pos := "ram.go:119", after := #[{ on := 11, ground := Go.Ground.data }, { on := 0, ground := Go.Ground.phase }, { on := 1, ground := Go.Ground.phase }, { on := 2, ground := Go.Ground.phase }, { on := 3, ground := Go.Ground.phase }, { on := 4, ground := Go.Ground.phase }, { on := 5, ground := Go.Ground.phase }, { on := 6, ground := Go.Ground.phase }, { on := 7, ground := Go.Ground.phase }, { on := 8, ground := Go.Ground.phase }, { on := 9, ground := Go.Ground.phase }, { on := 10, ground := Go.Ground.phase }, { on := 11, ground := Go.Ground.phase }], guard := none }) rfl (by kernel_rfl) (by kernel_rfl) (by rfl) (fun K hK => ?_)
  go_simp; (try go_bits); refine hK _ _ ?_; clear hK K
  clear hS
  have HF2 : Hid (Step (fun _ => False) own w.drew (ext own w.drew d) ((w.alloc (.cells (Array.replicate fs.length (.pointer none)) 97)).alloc (.cells #[.int .u64 0, .slice (some ⟨w.heap.size, 0, none⟩) fs.length fs.length] 96)).drew ∧
      MemIn ramK (ext own w.drew d) d ((w.alloc (.cells (Array.replicate fs.length (.pointer none)) 97)).alloc (.cells #[.int .u64 0, .slice (some ⟨w.heap.size, 0, none⟩) fs.length fs.length] 96)).drew (w.heap.size + 1) w.heap.size 0 (List.replicate fs.length none) (fun _ => 0)) := HF
  clear HF
  generalize ((w.alloc (.cells (Array.replicate fs.length (.pointer none)) 97)).alloc (.cells #[.int .u64 0, .slice (some ⟨w.heap.size, 0, none⟩) fs.length fs.length] 96)).drew = w1 at *
  have HF3 := Lib.hid (And.intro (show Step (fun _ => False) own w (ext own w.drew d) w1 from ((Step.refl (fun _ => False) own w).drew).trans HF2.out.1) HF2.out.2)
  clear HF2
  have c1 := (HF3.out.1.upd.cell (p := ⟨p, 1, none⟩) hlp (fun h => h)).trans h1
  clear h0 h1 hlp
  generalize ext own w.drew d = own1 at *
  generalize w.heap.size + 1 = p' at *
  generalize hqq : w.heap.size = q' at *
  have HQ := Lib.hid (Nat.le_of_eq hqq)
  clear hqq
  go_wp2
  go_loopw [24] (fun i wr => ∃ (k : Nat), k ≤ fs.length ∧ i = .int .i64 (k : Int) ∧ Hid (∃ own' fs', Step (fun _ => False) own w own' wr ∧ MemIn ramK own' d wr p' q' 0 fs' (fun x => if x / 4096 < k then m x else 0) ∧ fs'.length = fs.length ∧ ∀ j, k ≤ j → j < fs.length → fs'[j]? = some none)) (fun i _ => fs.length - (intOf i).toNat)
  case atStart =>
    refine ⟨0, by omega, rfl, own1, List.replicate fs.length none, HF3.out.1, ?_, by simp, fun j _ hj => by rw [List.getElem?_replicate, if_pos hj]⟩
    have := HF3.out.2
    simpa using this
  case round =>
    obtain ⟨k, hk, rfl, HL⟩ := hrel
    by_cases hlt : k < fs.length
    · obtain ⟨own2, fs2, hS2, hM2, hl2, hno⟩ := HL.out
      have hR2 := HR.out.step hS2 (fun h => h)
      have hq := hR2.cellq k
      rw [List.getElem?_eq_getElem hlt] at hq
      have cp1 : wr.cell? ⟨p', 1, none⟩ = some (.slice (some ⟨q', 0, none⟩) fs2.length fs2.length) := hM2.bp.cell 1
      rw [hl2] at cp1
      have zq := hM2.bq.frozen k
      have hlq := hM2.bq.lt
      have hlp2 := hM2.bp.lt
      have cq2 : wr.cell? ⟨q', k, none⟩ = some (.pointer none) := by rw [hM2.cellq k, hno k (Nat.le_refl _) hlt]; rfl
      obtain ⟨o, ho⟩ : ∃ o, fs[k] = o := ⟨_, rfl⟩
      rw [ho] at hq
      have hlt' : (k : Int) < (fs.length : Int) := by omega
      have H2 := Lib.hid (And.intro hS2 (And.intro hM2 (And.intro hl2 (And.intro hno hR2))))
      clear hS2 hM2 hl2 hno hR2 HL HF3
      rcases o with _ | b
      · have hq' : wr.cell? ⟨q, k, none⟩ = some (.pointer none) := hq
        have hgone := HR.out.gone k (by rw [List.getElem?_eq_getElem hlt, ho])
        have HGo := Lib.hid hgone
        clear hq hgone
        go_wp2
        refine ⟨⟨k + 1, by omega, by go_num, own2, fs2, H2.out.1, ?_, H2.out.2.2.1, fun j h1 h2 => H2.out.2.2.2.1 j (by omega) h2⟩, by simp [intOf]; omega⟩
        have hfe : (fun x => if x / 4096 < k + 1 then m x else 0) = (fun x => if x / 4096 < k then m x else 0) := by
          funext x
          by_cases h1 : x / 4096 < k
          · rw [if_pos h1, if_pos (by omega)]
          · rw [if_neg h1]
            by_cases h2 : x / 4096 < k + 1
            · rw [if_pos h2]
              have := HGo.out (x % 4096) (Nat.mod_lt _ (by omega))
              rwa [show k * 4096 + x % 4096 = x from by omega] at this
            · rw [if_neg h2]
        rw [hfe]
        exact H2.out.2.1
      · have hq' : wr.cell? ⟨q, k, none⟩ = some (.pointer (some ⟨b, 0, none⟩)) := hq
        obtain ⟨hob, cs, hb, hcs, hcf⟩ := H2.out.2.2.2.2.there k b (by rw [List.getElem?_eq_getElem hlt, ho])
        have h1c : cs.all (·.oneCell') = true := by
          rw [Array.all_eq_true]
          intro i hi
          have := hcf i (by omega)
          rw [Array.getElem?_eq_getElem hi] at this
          rw [Option.some.inj this]; rfl
        have HCF := Lib.hid hcf
        have hbl := hb.lt
        clear hq hcf
        go_wp2_with (first | ((with_reducible show wpList _ _ _ ((⟨some 33, _, _, _, _, _⟩ : Oper) :: _) _ _); refine wpList_load_row rfl 99 _ rfl b rfl 99 cs (0, 0) _ hb under_frame rfl (by rw [info_frame, hcs]) ?_) | ((with_reducible show wpList _ _ _ ((⟨none, _, _, _, _, _⟩ : Oper) :: _) _ _); refine wpList_store_row rfl 99 _ _ rfl wr.heap.size cs rfl rfl 99 _ (heap_alloc_last wr _) (by rw [info_frame, hcs]) (by rw [frame_zeros, size_zeros, hcs]) h1c ?_; rw [World.setRow_alloc_new]))
        have HLQ := Lib.hid hlq
        have hp := H2.out.2.1.put_frame (k := k) (H2.out.2.2.2.1 k (Nat.le_refl _) hlt) ((Upd.refl (fun _ => False) wr).alloc (.cells cs 99)) (Blk.new wr 99 cs) (Nat.le_refl _) hcs (f := m) (fun j hj => HCF.out j hj) HR.out.bd
        refine ⟨⟨k + 1, by omega, by go_num, ext own2 wr d, fs2.set k (some wr.heap.size), ?_, ?_, by simpa using H2.out.2.2.1, fun j h1 h2 => ?_⟩, by simp [intOf]; omega⟩
        · exact ⟨(H2.out.1.upd.setCell (p := ⟨q', k, none⟩) (.inr HQ.out) _).alloc _, fun x hx => (ext_old _ _ _ (Nat.lt_of_lt_of_le hx H2.out.1.upd.size)).trans (H2.out.1.old x hx)⟩
        · have hfe : (fun x => if x / 4096 < k + 1 then m x else 0) = (fun x => if x / 4096 = k then m x else (if x / 4096 < k then m x else 0)) := by
            funext x
            by_cases h1 : x / 4096 = k
            · rw [if_pos h1, if_pos (by omega)]
            · rw [if_neg h1]
              by_cases h2 : x / 4096 < k
              · rw [if_pos h2, if_pos (by omega)]
              · rw [if_neg h2, if_neg (by omega)]
          rw [hfe]
          have h2 := hp.2
          rw [World.setCell_alloc_past _ _ _ _ (by exact HLQ.out)] at h2
          exact h2
        · rw [List.getElem?_set_ne (by omega)]; exact H2.out.2.2.2.1 j (by omega) h2
    · obtain rfl : k = fs.length := by omega
      go_wp2
      go_ret
      obtain ⟨own2, fs2, hS2, hM2, hl2, hno⟩ := HL.out
      exact ⟨p', own2, rfl, hS2, q', fs2, hM2.cong (fun x hx => by rw [hl2] at hx; rw [if_pos hx]) HR.out.bd, hl2⟩
end Go.Proofs.Ytonhlgfgbdiapaa
