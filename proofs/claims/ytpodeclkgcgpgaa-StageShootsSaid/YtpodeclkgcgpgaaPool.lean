import Derived.Test.YtpodeclkgcgpgaaOnce2
import Derived.Test.YtpodeclkgcgpgaaMref
/- The pool of frames (frame.Pool). -/
namespace Go.Proofs.Ytpodeclkgcgpgaa
set_option linter.unusedVariables false
open Go.RowKit
set_option maxRecDepth 100000

/-- a pool's own cells: the list of waits is made (d) or not -/
def poolC (rp qo qb n : Nat) (res harts : Int) (d : Bool) : Array Value :=
  #[.pointer (some ⟨rp, 0, none⟩), .int .i64 res, .int .i64 harts, .slice (some ⟨qo, 0, none⟩) n n, .int .u32 (if d then 1 else 0), .int .i32 0, .int .u32 0, if d then .slice (some ⟨qb, 0, none⟩) n n else .slice none 0 0]
/-- a pool at block pp: who owns each frame, what each waits for; its blocks have the colour c -/
structure PoolIn (own : Nat → Nat) (c : Nat) (w : World) (pp rp qo qb n : Nat) (res harts : Int) (d : Bool) (ow bt : List Int) : Prop where
  bp : Blk w pp 163 (poolC rp qo qb n res harts d)
  op : own pp = c
  bo : Blk w qo 3 (ow.map (.int .i64)).toArray
  oo : own qo = c
  bb : d = true → Blk w qb 167 (bt.map (.int .u64)).toArray ∧ own qb = c
  b0 : d = false → bt = List.replicate n 0
  lo : ow.length = n
  lb : bt.length = n
  hn : n ≤ 1024
def PoolAt (own : Nat → Nat) (c : Nat) (w : World) (pp rp n : Nat) (res harts : Int) (ow bt : List Int) : Prop := ∃ qo qb d, PoolIn own c w pp rp qo qb n res harts d ow bt

section
variable {own own' : Nat → Nat} {c pp rp qo qb n : Nat} {res harts : Int} {d : Bool} {ow bt : List Int} {w w' : World}
theorem PoolIn.step {C : Nat → Prop} (h : PoolIn own c w pp rp qo qb n res harts d ow bt) (hS : Step C own w own' w') (hc : ¬ C c) : PoolIn own' c w' pp rp qo qb n res harts d ow bt := by
  obtain ⟨b1, o1⟩ := hS.blk h.bp h.op hc
  obtain ⟨b2, o2⟩ := hS.blk h.bo h.oo hc
  exact ⟨b1, o1, b2, o2, fun hd => hS.blk (h.bb hd).1 (h.bb hd).2 hc, h.b0, h.lo, h.lb, h.hn⟩
theorem PoolAt.step {C : Nat → Prop} (h : PoolAt own c w pp rp n res harts ow bt) (hS : Step C own w own' w') (hc : ¬ C c) : PoolAt own' c w' pp rp n res harts ow bt := by
  obtain ⟨qo, qb, d, h⟩ := h
  exact ⟨qo, qb, d, h.step hS hc⟩
theorem PoolIn.made (h : PoolIn own c w pp rp qo qb n res harts false ow bt) :
    Step (· = c) own w (ext own w c) (onceW (w.alloc (.cells #[.pointer (some ⟨pp, 0, none⟩)] 31)) pp n) ∧ PoolIn (ext own w c) c (onceW (w.alloc (.cells #[.pointer (some ⟨pp, 0, none⟩)] 31)) pp n) pp rp qo (w.heap.size + 1) n res harts true ow bt := by
  have hlt := h.bp.lt
  have hlo := h.bo.lt
  have hne : qo ≠ pp := h.bo.ne_ h.bp (by decide)
  have hsz : (w.alloc (.cells #[.pointer (some ⟨pp, 0, none⟩)] 31)).heap.size = w.heap.size + 1 := World.size_alloc ..
  refine ⟨⟨?_, fun b hb => ext_old _ _ _ hb⟩, ?_⟩
  · unfold onceW
    exact (((((((Upd.refl _ _).alloc _).setCell (.inl h.op) _).setCell (.inl h.op) _).alloc _).drew.drew).setCell (.inl h.op) _).setCell (.inl h.op) _
  · unfold onceW
    rw [hsz]
    refine ⟨?_, (ext_old _ _ _ hlt).trans h.op, ?_, (ext_old _ _ _ hlo).trans h.oo, fun _ => ⟨?_, ext_new _ _ _ (by omega)⟩, fun e => (by cases e), h.lo, h.lb, h.hn⟩
    · exact ((((((h.bp.alloc _).set_ 5 _).set_ 7 _).alloc _).drew.drew).set_ 4 _).set_ 5 _
    · exact ((((((h.bo.alloc _).far (p := ⟨pp, 5, none⟩) hne _).far (p := ⟨pp, 7, none⟩) hne _).alloc _).drew.drew).far (p := ⟨pp, 4, none⟩) hne _).far (p := ⟨pp, 5, none⟩) hne _
    · have hb := Blk.new (((w.alloc (.cells #[.pointer (some ⟨pp, 0, none⟩)] 31)).setCell ⟨pp, 5, none⟩ (.int .i32 1)).setCell ⟨pp, 7, none⟩ (.slice (some ⟨w.heap.size + 1, 0, none⟩) n n)) 167 (Array.replicate n (.int .u64 0))
      rw [size_setCell, size_setCell, hsz] at hb
      have h1 : w.heap.size + 1 ≠ pp := by omega
      rw [h.b0 rfl, show ((List.replicate n (0 : Int)).map (Value.int .u64)).toArray = Array.replicate n (Value.int .u64 0) from by simp]
      exact (hb.drew.drew.far (p := ⟨pp, 4, none⟩) h1 _).far (p := ⟨pp, 5, none⟩) h1 _
theorem pool_waits (h : PoolIn own c w pp rp qo qb n res harts d ow bt) :
    Calls Try.prog 81 #[.pointer (some ⟨pp, 0, none⟩)] w fun e w' => ∃ qb' own', e = .returned (.slice (some ⟨qb', 0, none⟩) n n) ∧ Step (· = c) own w own' w' ∧ PoolIn own' c w' pp rp qo qb' n res harts true ow bt := by
  have hlt := h.bp.lt
  cases d with
  | true =>
    refine (waits_done pp (.slice (some ⟨qb, 0, none⟩) n n) w hlt (h.bp.cell 4) (h.bp.cell 7)).mono ?_
    rintro e w' ⟨rfl, rfl⟩
    have hst : Step (fun _ => False) own w own (w.alloc (.cells #[.pointer (some ⟨pp, 0, none⟩)] 31)) := ⟨(Upd.refl _ _).alloc _, fun _ _ => rfl⟩
    exact ⟨qb, own, rfl, hst.mono (fun _ h => h.elim), h.step hst (fun h => h)⟩
  | false =>
    refine (waits_first pp n n (some ⟨qo, 0, none⟩) h.hn w hlt (h.bp.cell 3) (h.bp.cell 4) (h.bp.cell 5) (h.bp.cell 7) (h.bp.frozen _) (h.bp.frozen _) (h.bp.frozen _)).mono ?_
    rintro e w' ⟨rfl, rfl⟩
    have := h.made
    exact ⟨_, _, rfl, this.1, this.2⟩
end
end Go.Proofs.Ytpodeclkgcgpgaa
