import Derived.Test.YtjhibbhinbdciaaBase
/- A memory in frames: what the program's (ram.RAM) and the document's (citadelref03.M) have in common. -/
namespace Go.Proofs.Ytjhibbhinbdciaa
set_option linter.unusedVariables false
open Go.RowKit
set_option maxRecDepth 100000

/-- what kind of memory: the types of its head, of its list, of a frame's bytes; its head's cells (base, list's block, frames); how a frame is named -/
structure MK where
  tp : TypeId
  tq : TypeId
  tb : TypeId
  head : Nat → Nat → Nat → Array Value
  ptr : Option Nat → Value
  pq : tp ≠ tq
  pb : tp ≠ tb
  qb : tq ≠ tb
/-- a block that holds 4096 bytes of m, from o on -/
def FrameAt (w : World) (b : Nat) (t : TypeId) (m : Nat → Int) (o : Nat) : Prop := ∃ c, Blk w b t c ∧ c.size = 4096 ∧ ∀ j, j < 4096 → c[j]? = some (.int .u8 (m (o + j)))
/-- a memory at block p: base, its frames, the bytes m; its blocks have the colour c -/
structure MemIn (K : MK) (own : Nat → Nat) (c : Nat) (w : World) (p q base : Nat) (fs : List (Option Nat)) (m : Nat → Int) : Prop where
  bp : Blk w p K.tp (K.head base q fs.length)
  op : own p = c
  bq : Blk w q K.tq (fs.map K.ptr).toArray
  oq : own q = c
  there : ∀ (k b : Nat), fs[k]? = some (some b) → own b = c ∧ FrameAt w b K.tb m (k * 4096)
  gone : ∀ (k : Nat), fs[k]? = some none → ∀ j, j < 4096 → m (k * 4096 + j) = 0
  apart : ∀ (j k b : Nat), fs[j]? = some (some b) → fs[k]? = some (some b) → j = k
  bd : ∀ x, 0 ≤ m x ∧ m x < 256
  hb : base ≤ 4503599627370496
  hn : 1 ≤ fs.length ∧ fs.length ≤ 1024
def MemAt (K : MK) (own : Nat → Nat) (c : Nat) (w : World) (p base n : Nat) (m : Nat → Int) : Prop := ∃ q fs, MemIn K own c w p q base fs m ∧ fs.length = n

section
variable {K : MK} {own own' : Nat → Nat} {c p q base n : Nat} {fs : List (Option Nat)} {m : Nat → Int} {w w' : World}
theorem FrameAt.upd {S : Nat → Prop} {b o : Nat} {t : TypeId} (h : FrameAt w b t m o) (hU : Upd S w w') (hb : ¬ S b) : FrameAt w' b t m o := by
  obtain ⟨c, h1, h2⟩ := h
  exact ⟨c, h1.upd hU hb, h2⟩
theorem FrameAt.lt {b o : Nat} {t : TypeId} (h : FrameAt w b t m o) : b < w.heap.size := by
  obtain ⟨c, h1, _⟩ := h
  exact h1.lt
theorem MemIn.step {C : Nat → Prop} (h : MemIn K own c w p q base fs m) (hS : Step C own w own' w') (hc : ¬ C c) : MemIn K own' c w' p q base fs m := by
  obtain ⟨b1, o1⟩ := hS.blk h.bp h.op hc
  obtain ⟨b2, o2⟩ := hS.blk h.bq h.oq hc
  refine ⟨b1, o1, b2, o2, fun k b hk => ?_, h.gone, h.apart, h.bd, h.hb, h.hn⟩
  obtain ⟨ho, hf⟩ := h.there k b hk
  exact ⟨(hS.same hf.lt).trans ho, hf.upd hS.upd (by rw [ho]; exact hc)⟩
theorem MemAt.step {C : Nat → Prop} (h : MemAt K own c w p base n m) (hS : Step C own w own' w') (hc : ¬ C c) : MemAt K own' c w' p base n m := by
  obtain ⟨q, fs, h, rfl⟩ := h
  exact ⟨q, fs, h.step hS hc, rfl⟩
theorem MemIn.cellq (h : MemIn K own c w p q base fs m) (k : Nat) : w.cell? ⟨q, k, none⟩ = fs[k]?.map K.ptr := by
  rw [h.bq.cell]; simp
theorem MemAt.drewN (h : MemAt K own c w p base n m) (k : Nat) : MemAt K own c (w.drewN k) p base n m :=
  h.step (C := fun _ => False) ((Step.refl _ _ _).drewN k) (fun h => h)
theorem MemAt.bd (h : MemAt K own c w p base n m) : ∀ x, 0 ≤ m x ∧ m x < 256 := by obtain ⟨q, fs, h, rfl⟩ := h; exact h.bd
theorem MemAt.sizes (h : MemAt K own c w p base n m) : base ≤ 4503599627370496 ∧ 1 ≤ n ∧ n ≤ 1024 := by obtain ⟨q, fs, h, rfl⟩ := h; exact ⟨h.hb, h.hn⟩
end

/-- do bytes lie in a memory? -/
def hasR (base n : Nat) (addr size : Int) : Bool := decide (0 ≤ size ∧ (base : Int) ≤ addr ∧ addr - base ≤ (n * 4096 : Nat) ∧ size ≤ (n * 4096 : Nat) - (addr - base))
theorem hasR_iff {base n : Nat} {addr size : Int} : hasR base n addr size = true ↔ (0 ≤ size ∧ (base : Int) ≤ addr ∧ addr - base ≤ (n * 4096 : Nat) ∧ size ≤ (n * 4096 : Nat) - (addr - base)) := by simp [hasR]

def zeros : Array Value := (List.replicate 4096 (.int .u8 0)).toArray
theorem size_zeros : zeros.size = 4096 := by simp [zeros]
theorem zeros_at {j : Nat} (h : j < 4096) : zeros[j]? = some (.int .u8 0) := by
  simp only [zeros, List.getElem?_toArray, List.getElem?_replicate, if_pos h]

/-- one byte laid -/
def setB (m : Nat → Int) (off : Nat) (v : Int) : Nat → Int := fun x => if x = off then v else m x

theorem setB_bd {m : Nat → Int} (h : ∀ x, 0 ≤ m x ∧ m x < 256) (off : Nat) {v : Int} (hv : 0 ≤ v ∧ v < 256) : ∀ x, 0 ≤ setB m off v x ∧ setB m off v x < 256 := by
  intro x; unfold setB; split
  · exact hv
  · exact h x
theorem setB_ne {m : Nat → Int} {off x : Nat} (v : Int) (h : x ≠ off) : setB m off v x = m x := if_neg h
theorem MemIn.put_old {K : MK} {own : Nat → Nat} {c p q base : Nat} {fs : List (Option Nat)} {m : Nat → Int} {w : World} (h : MemIn K own c w p q base fs m) {off b : Nat} (hf : fs[off / 4096]? = some (some b)) {v : Int} (hv : 0 ≤ v ∧ v < 256) :
    Step (· = c) own w own (w.setCell ⟨b, off % 4096, none⟩ (.int .u8 v)) ∧ MemIn K own c (w.setCell ⟨b, off % 4096, none⟩ (.int .u8 v)) p q base fs (setB m off v) := by
  obtain ⟨ho, cs, hb, hs, hc⟩ := h.there _ _ hf
  refine ⟨⟨(Upd.refl _ _).setCell (.inl ho) _, fun _ _ => rfl⟩, ?_⟩
  refine ⟨h.bp.far (h.bp.ne_ hb K.pb) _, h.op, h.bq.far (h.bq.ne_ hb K.qb) _, h.oq, fun k b' hk => ?_, fun k hk j hj => ?_, h.apart, setB_bd h.bd _ hv, h.hb, h.hn⟩
  · obtain ⟨ho', cs', hb', hs', hc'⟩ := h.there k b' hk
    refine ⟨ho', ?_⟩
    by_cases e : b' = b
    · subst e
      obtain rfl := h.apart _ _ _ hk hf
      obtain ⟨rfl, _⟩ := hb'.inj hb
      refine ⟨_, hb.set_ _ _, by simpa using hs, fun j hj => ?_⟩
      by_cases e : j = off % 4096
      · subst e
        rw [getElem?_set_eq _ (by omega), setB, if_pos (by omega)]
      · rw [getElem?_set_ne _ e, setB_ne _ (by omega)]; exact hc _ hj
    · refine ⟨cs', hb'.far e _, hs', fun j hj => ?_⟩
      rw [setB_ne _ ?_]; exact hc' _ hj
      intro e'
      have : k = off / 4096 := by omega
      subst this
      rw [hk] at hf; simp at hf; exact e hf
  · rw [setB_ne _ ?_]; exact h.gone k hk j hj
    intro e'
    have : k = off / 4096 := by omega
    subst this
    rw [hk] at hf; simp at hf
theorem size_setCell (w : World) (a : Addr) (u : Value) : (w.setCell a u).heap.size = w.heap.size := by simp [World.setCell]
theorem MemIn.put_new {K : MK} {own : Nat → Nat} {c p q base : Nat} {fs : List (Option Nat)} {m : Nat → Int} {w : World} (h : MemIn K own c w p q base fs m) {off : Nat} (hf : fs[off / 4096]? = some none) {v : Int} (hv : 0 ≤ v ∧ v < 256) :
    Step (· = c) own w (ext own w c) ((w.setCell ⟨q, off / 4096, none⟩ (K.ptr (some w.heap.size))).alloc (.cells (zeros.setIfInBounds (off % 4096) (.int .u8 v)) K.tb)) ∧
    MemIn K (ext own w c) c ((w.setCell ⟨q, off / 4096, none⟩ (K.ptr (some w.heap.size))).alloc (.cells (zeros.setIfInBounds (off % 4096) (.int .u8 v)) K.tb)) p q base (fs.set (off / 4096) (some w.heap.size)) (setB m off v) := by
  have hk : off / 4096 < fs.length := by
    rcases Nat.lt_or_ge (off / 4096) fs.length with h | h
    · exact h
    · rw [List.getElem?_eq_none h] at hf; cases hf
  refine ⟨⟨((Upd.refl _ _).setCell (.inl h.oq) _).alloc _, fun b hb => ext_old _ _ _ hb⟩, ?_⟩
  refine ⟨?_, (ext_old _ _ _ h.bp.lt).trans h.op, ?_, (ext_old _ _ _ h.bq.lt).trans h.oq, fun k b' hk' => ?_, fun k hk' j hj => ?_, fun j k b hj hk' => ?_, setB_bd h.bd _ hv, h.hb, by simpa using h.hn⟩
  · rw [List.length_set]; exact (h.bp.far (h.bp.ne_ h.bq K.pq) _).alloc _
  · have := (h.bq.set_ (off / 4096) (K.ptr (some w.heap.size))).alloc (.cells (zeros.setIfInBounds (off % 4096) (.int .u8 v)) K.tb)
    have e : ((fs.set (off / 4096) (some w.heap.size)).map K.ptr).toArray = (fs.map K.ptr).toArray.setIfInBounds (off / 4096) (K.ptr (some w.heap.size)) := by simp [List.map_set]
    rw [e]; exact this
  · rw [List.getElem?_set] at hk'
    split at hk'
    · rename_i e
      subst e
      obtain rfl : w.heap.size = b' := by simpa using hk'
      refine ⟨ext_new _ _ _ (Nat.le_refl _), zeros.setIfInBounds (off % 4096) (.int .u8 v), ?_, by rw [Array.size_setIfInBounds]; exact size_zeros, fun j hj => ?_⟩
      · have := Blk.new (w.setCell ⟨q, off / 4096, none⟩ (K.ptr (some w.heap.size))) K.tb (zeros.setIfInBounds (off % 4096) (.int .u8 v))
        rwa [size_setCell] at this
      · by_cases e : j = off % 4096
        · subst e
          rw [getElem?_set_eq _ (by rw [size_zeros]; exact hj), setB, if_pos (by omega)]
        · rw [getElem?_set_ne _ e, setB_ne _ (by omega), zeros_at hj, h.gone _ hf _ hj]
    · rename_i e
      obtain ⟨ho', cs', hb', hs', hc'⟩ := h.there k b' hk'
      refine ⟨(ext_old _ _ _ hb'.lt).trans ho', cs', (hb'.far (p := ⟨q, off / 4096, none⟩) (hb'.ne_ h.bq K.qb.symm) _).alloc _, hs', fun j hj => ?_⟩
      rw [setB_ne _ (by omega)]; exact hc' _ hj
  · rw [List.getElem?_set] at hk'
    split at hk'
    · rename_i e
      subst e
      cases hk'
    · rw [setB_ne _ (by omega)]; exact h.gone k hk' j hj
  · have hlt : ∀ k b, fs[k]? = some (some b) → b < w.heap.size := fun k b hk => (h.there k b hk).2.lt
    rw [List.getElem?_set] at hj hk'
    split at hj <;> split at hk'
    · omega
    · have := hlt _ _ hk'
      simp at hj; omega
    · have := hlt _ _ hj
      simp at hk'; omega
    · exact h.apart _ _ _ hj hk'

/-- frame k cleared -/
def clrF (m : Nat → Int) (k : Nat) : Nat → Int := fun x => if x / 4096 = k then 0 else m x
theorem MemIn.clear {K : MK} {own : Nat → Nat} {c p q base : Nat} {fs : List (Option Nat)} {m : Nat → Int} {w : World} (h : MemIn K own c w p q base fs m) {k : Nat} (hk : k < fs.length) :
    Step (· = c) own w own (w.setCell ⟨q, k, none⟩ (K.ptr none)) ∧ MemIn K own c (w.setCell ⟨q, k, none⟩ (K.ptr none)) p q base (fs.set k none) (clrF m k) := by
  refine ⟨⟨(Upd.refl _ _).setCell (.inl h.oq) _, fun _ _ => rfl⟩, ?_⟩
  refine ⟨?_, h.op, ?_, h.oq, fun k' b' hk' => ?_, fun k' hk' j hj => ?_, fun j k' b hj hk' => ?_, fun x => ?_, h.hb, by simpa using h.hn⟩
  · rw [List.length_set]; exact h.bp.far (h.bp.ne_ h.bq K.pq) _
  · have e : ((fs.set k none).map K.ptr).toArray = (fs.map K.ptr).toArray.setIfInBounds k (K.ptr none) := by simp [List.map_set]
    rw [e]; exact h.bq.set_ _ _
  · rw [List.getElem?_set] at hk'
    split at hk'
    · cases hk'
    · rename_i e
      obtain ⟨ho', cs', hb', hs', hc'⟩ := h.there k' b' hk'
      refine ⟨ho', cs', hb'.far (p := ⟨q, k, none⟩) (hb'.ne_ h.bq K.qb.symm) _, hs', fun j hj => ?_⟩
      rw [clrF, if_neg (by omega)]; exact hc' _ hj
  · rw [List.getElem?_set] at hk'
    split at hk'
    · rename_i e
      subst e
      rw [clrF, if_pos (by omega)]
    · rename_i e
      rw [clrF, if_neg (by omega)]; exact h.gone _ hk' _ hj
  · rw [List.getElem?_set] at hj hk'
    split at hj <;> split at hk'
    · omega
    · cases hj
    · cases hk'
    · exact h.apart _ _ _ hj hk'
  · unfold clrF; split
    · omega
    · exact h.bd x
theorem MemIn.fresh (K : MK) {own : Nat → Nat} {w : World} (c base n : Nat) (hb : base ≤ 4503599627370496) (hn : 1 ≤ n) (hn2 : n ≤ 1024) :
    Step (fun _ => False) own w (ext own w c) ((w.alloc (.cells (Array.replicate n (K.ptr none)) K.tq)).alloc (.cells (K.head base w.heap.size n) K.tp)) ∧
    MemIn K (ext own w c) c ((w.alloc (.cells (Array.replicate n (K.ptr none)) K.tq)).alloc (.cells (K.head base w.heap.size n) K.tp)) (w.heap.size + 1) w.heap.size base (List.replicate n none) (fun _ => 0) := by
  refine ⟨⟨((Upd.refl _ _).alloc _).alloc _, fun b hb => ext_old _ _ _ hb⟩, ?_⟩
  have h1 := Blk.new w K.tq (Array.replicate n (K.ptr none))
  have h2 := Blk.new (w.alloc (.cells (Array.replicate n (K.ptr none)) K.tq)) K.tp (K.head base w.heap.size n)
  have hs : (w.alloc (.cells (Array.replicate n (K.ptr none)) K.tq)).heap.size = w.heap.size + 1 := by unfold World.alloc; exact Array.size_push _
  rw [hs] at h2
  refine ⟨by rw [List.length_replicate]; exact h2, ext_new _ _ _ (by omega), by have := h1.alloc (.cells (K.head base w.heap.size n) K.tp); rw [show ((List.replicate n none).map K.ptr).toArray = Array.replicate n (K.ptr none) from by simp]; exact this, ext_new _ _ _ (by omega), fun k b hk => ?_, fun k hk j hj => rfl, fun j k b hj hk => ?_, fun x => by simp, hb, by simp; omega⟩
  · rw [List.getElem?_replicate] at hk; split at hk <;> cases hk
  · rw [List.getElem?_replicate] at hk; split at hk <;> cases hk
end Go.Proofs.Ytjhibbhinbdciaa
