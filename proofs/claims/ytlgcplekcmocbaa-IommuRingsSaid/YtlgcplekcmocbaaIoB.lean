import Derived.Test.YtlgcplekcmocbaaIoA2
import Derived.Test.YtlgcplekcmocbaaIo8
import Derived.Test.YtlgcplekcmocbaaPlace
/- The IOMMU in a law's object: what is carried along. -/
namespace Go.Proofs.Ytlgcplekcmocbaa
set_option linter.unusedVariables false
set_option linter.unusedSimpArgs false
open Go.RowKit
set_option maxRecDepth 100000

/-- what a law carries along: the IOMMU (colour 1), the memory (2), the law's object (9) -/
structure RB (w0 : World) (own : Nat → Nat) (w : World) (p q rp tp p2 xo : Nat) (s : Us) (m : Nat → Int) : Prop where
  st : Step (fun x => x = 1 ∨ x = 2) (fun _ => 0) w0 own w
  u : UsAt own 1 w p rp tp s
  mm : MemAt ramK own 2 w rp 0 8 m
  o : Blk w xo 31 #[.pointer (some ⟨p, 0, none⟩), .pointer (some ⟨q, 0, none⟩), .pointer (some ⟨rp, 0, none⟩), .pointer (some ⟨p2, 0, none⟩)] ∧ own xo = 9
section
variable {w0 w w' : World} {own own' : Nat → Nat} {p q rp tp p2 xo : Nat} {s s' : Us} {m m' : Nat → Int} {L : List (Nat × Nat × Nat)} {ov : Bool}
theorem RB.step (h : RB w0 own w p q rp tp p2 xo s m) (hS : Step (fun x => x = 1 ∨ x = 2) own w own' w') (hU : UsAt own' 1 w' p rp tp s') (hM : MemAt ramK own' 2 w' rp 0 8 m') : RB w0 own' w' p q rp tp p2 xo s' m' :=
  ⟨h.st.trans hS, hU, hM, hS.blk h.o.1 h.o.2 (by omega)⟩
theorem RB.alloc (h : RB w0 own w p q rp tp p2 xo s m) (o : Obj) : RB w0 (ext own w 9) (w.alloc o) p q rp tp p2 xo s m := by
  have hS : Step (fun _ => False) own w (ext own w 9) (w.alloc o) := ⟨(Upd.refl _ _).alloc _, fun b hb => ext_old _ _ _ hb⟩
  exact h.step (hS.mono (fun _ h => h.elim)) (h.u.step hS (fun h => h)) (h.mm.step hS (fun h => h))
theorem RB.upd (h : RB w0 own w p q rp tp p2 xo s m) : Upd (fun _ => False) w0 w := h.st.upd.mono (fun i hi e => absurd e (by decide))
theorem RB.cell (h : RB w0 own w p q rp tp p2 xo s m) : w.cell? ⟨xo, 0, none⟩ = some (.pointer (some ⟨p, 0, none⟩)) ∧ xo < w.heap.size := ⟨h.o.1.cell 0, h.o.1.lt⟩
/-- an access of a device without a table -/
theorem RB.acc (h : RB w0 own w p q rp tp p2 xo s m) (hq : QS 8 s m L ov) (d a : Nat) (hd : d < 8) (hr : s.rt d = 0) (ha : a < 18446744073709551616) (sz : Int) (hs0 : -9223372036854775808 ≤ sz) (hs1 : sz ≤ 9223372036854775807) (wr : Bool) :
    Calls Try.prog 19 #[.pointer (some ⟨p, 0, none⟩), .int .i64 (d : Int), .int .u64 (a : Int), .int .i64 sz, .bool wr] w fun e w' => e = .returned (.tuple #[.int .u64 0, .bool false]) ∧
      ∃ own' s' m', RB w0 own' w' p q rp tp p2 xo s' m' ∧ QS 8 s' m' (pushL L (d, kindN sz a, a)) (pushO L ov) ∧ s'.rt = s.rt := by
  refine (io_Access_none h.u h.mm (by decide) hq.ok d a hd hr ha sz hs0 hs1 wr).mono ?_
  rintro e w1 ⟨rfl, own1, hS, hU, hM⟩
  exact ⟨rfl, own1, _, _, h.step hS hU hM, hq.push d (kindN sz a) a (by omega) (by unfold kindN; split <;> decide) ha, recS_rt s⟩
/-- a record is told -/
theorem RB.next {x : Nat × Nat × Nat} (h : RB w0 own w p q rp tp p2 xo s m) (hq : QS 8 s m (x :: L) ov) :
    Calls Try.prog 16 #[.pointer (some ⟨p, 0, none⟩)] w fun e w' => e = .returned (.tuple #[.agg #[.int .i64 (x.1 : Int), .int .i64 (x.2.1 : Int), .int .u64 (x.2.2 : Int)], .bool true]) ∧
      ∃ own' s', RB w0 own' w' p q rp tp p2 xo s' m ∧ QS 8 s' m L ov ∧ s'.rt = s.rt := by
  obtain ⟨h0, h1, h2, h3, h4⟩ := hq.pop
  have hN := io_Next h.u h.mm (by decide) hq.ok h0
  rw [h1, h2, h3] at hN
  refine hN.mono ?_
  rintro e w1 ⟨rfl, own1, hS, hU, hM⟩
  exact ⟨rfl, own1, _, h.step (hS.mono (fun x h => Or.inl h)) hU hM, h4, nextS_rt s⟩
theorem RB.none_ (h : RB w0 own w p q rp tp p2 xo s m) (hq : nextOk s = false) :
    Calls Try.prog 16 #[.pointer (some ⟨p, 0, none⟩)] w fun e w' => e = .returned (.tuple #[.agg #[.int .i64 0, .int .i64 0, .int .u64 0], .bool false]) ∧ ∃ own', RB w0 own' w' p q rp tp p2 xo s m := by
  refine (io_Next_none h.u h.mm hq).mono ?_
  rintro e w1 ⟨rfl, own1, hS, hU, hM⟩
  exact ⟨rfl, own1, h.step (hS.mono (fun x h => h.elim)) hU hM⟩
theorem RB.over (h : RB w0 own w p q rp tp p2 xo s m) : Calls Try.prog 23 #[.pointer (some ⟨p, 0, none⟩)] w fun e w' => e = .returned (.bool s.ov) ∧ w = w' := io_Overflow h.u
theorem RB.clear (h : RB w0 own w p q rp tp p2 xo s m) (hq : QS 8 s m L ov) : Calls Try.prog 24 #[.pointer (some ⟨p, 0, none⟩)] w fun e w' => e = .returned (.tuple #[]) ∧ ∃ own' s', RB w0 own' w' p q rp tp p2 xo s' m ∧ QS 8 s' m L false ∧ s'.rt = s.rt := by
  refine (io_Clear h.u).mono ?_
  rintro e w1 ⟨rfl, hS, hU⟩
  exact ⟨rfl, own, _, h.step (hS.mono (fun x h => Or.inl h)) hU (h.mm.step hS (by decide)), hq.clear, rfl⟩
end
/-- the records of a device's first k accesses -/
def fl (d k : Nat) : List (Nat × Nat × Nat) := (List.range k).map (fun j => (d, 1, 8 * j))
theorem fl_len (d k : Nat) : (fl d k).length = k := by simp [fl]
theorem fl_succ (d k : Nat) : fl d (k + 1) = fl d k ++ [(d, 1, 8 * k)] := by simp [fl, List.range_succ]
theorem fl_drop (d k i : Nat) (h : i < k) : (fl d k).drop i = (d, 1, 8 * i) :: (fl d k).drop (i + 1) := by
  rw [List.drop_eq_getElem_cons (by rw [fl_len]; exact h)]
  simp [fl]
theorem fl_done (d k : Nat) : (fl d k).drop k = [] := List.drop_eq_nil_of_le (by rw [fl_len]; exact Nat.le_refl _)
end Go.Proofs.Ytlgcplekcmocbaa
