import Derived.Test.YtlgcplekcmocbaaIoG
import Derived.Test.YtlgcplekcmocbaaIoX
import Derived.Test.YtlgcplekcmocbaaLaw3
/- IommuBlocks: what is carried along. -/
namespace Go.Proofs.Ytlgcplekcmocbaa
set_option linter.unusedVariables false
set_option linter.unusedSimpArgs false
open Go.RowKit
set_option maxRecDepth 100000

theorem kindN_eq (sz : Int) (a : Nat) : kindN sz a = if wellA sz a = false then 4 else 1 := by
  unfold kindN wellA
  cases hq : (okS sz && a % sz.toNat == 0) <;> simp [hq]
theorem accA_none {n : Nat} {m : Nat → Int} {s : Us} {room : Nat} {l : List Tr} {d : Nat} (hd : d < 8) (hr : s.rt d = 0) (a : Nat) (sz : Int) (wr : Bool) : accA n m s room l (d : Int) a sz wr = (0, kindN sz a, l) := by
  unfold accA
  rw [kindN_eq]
  have hrr : rootP s (d : Int) = 0 := by unfold rootP; rw [if_pos (by omega)]; simpa using hr
  split
  · rfl
  · first | rfl | rw [if_pos hrr]
/-- the records of a list of accesses -/
def recL (d : Nat) (L : List OpR) : List (Nat × Nat × Nat) := L.map (fun x => (d, kindN x.s x.a, x.a))
theorem recL_len (d : Nat) (L : List OpR) : (recL d L).length = L.length := by simp [recL]
theorem recL_at {d : Nat} {L : List OpR} {j : Nat} {x : OpR} (h : L[j]? = some x) : (recL d L)[j]? = some (d, kindN x.s x.a, x.a) := by simp [recL, h]
theorem recL_push {d : Nat} {L : List OpR} {j : Nat} {x : OpR} (h : L[j]? = some x) : pushL ((recL d L).take (min j 255)) (d, kindN x.s x.a, x.a) = (recL d L).take (min (j + 1) 255) ∧ pushO ((recL d L).take (min j 255)) (decide (255 < j)) = decide (255 < j + 1) := by
  have hlt : j < L.length := (List.getElem?_eq_some_iff.1 h).1
  have hl : ((recL d L).take (min j 255)).length = min j 255 := by rw [List.length_take, recL_len]; omega
  unfold pushL pushO
  rw [hl]
  by_cases hj : j < 255
  · rw [if_pos (by omega), if_pos (by omega), show min j 255 = j from by omega, show min (j + 1) 255 = j + 1 from by omega, List.take_add_one, recL_at h]
    exact ⟨rfl, by simp; omega⟩
  · rw [if_neg (by omega), if_neg (by omega), show min j 255 = 255 from by omega, show min (j + 1) 255 = 255 from by omega]
    exact ⟨rfl, by simp; omega⟩
/-- one IOMMU, and the document's memory -/
structure S2 (w0 : World) (own : Nat → Nat) (w : World) (p q rp tp p2 xo r : Nat) (s : Us) (m M0 : Nat → Int) (l : List Tr) : Prop where
  a : S1 w0 own w p q rp tp p2 xo r s m l
  mr : MemAt refK own 5 w p2 0 8 M0
section
variable {w0 w w' : World} {own own' : Nat → Nat} {p q rp tp p2 xo r : Nat} {s s2 : Us} {m m2 M0 : Nat → Int} {l l2 : List Tr}
theorem S2.step (h : S2 w0 own w p q rp tp p2 xo r s m M0 l) (hS : Step (fun x => 0 < x ∧ x ≤ 0 + 4) own w own' w') (hA : Sd 0 own' w' p rp tp r s2 m2 l2) : S2 w0 own' w' p q rp tp p2 xo r s2 m2 M0 l2 :=
  ⟨h.a.step hS hA, h.mr.step hS (by omega)⟩
theorem S2.none_ (h : S2 w0 own w p q rp tp p2 xo r s m M0 l) (hS : Step (fun _ => False) own w own' w') : S2 w0 own' w' p q rp tp p2 xo r s m M0 l := ⟨h.a.none_ hS, h.mr.step hS (fun h => h)⟩
theorem S2.drew (h : S2 w0 own w p q rp tp p2 xo r s m M0 l) : S2 w0 own w.drew p q rp tp p2 xo r s m M0 l := h.none_ (Step.refl _ _ _).drew
theorem S2.alloc (h : S2 w0 own w p q rp tp p2 xo r s m M0 l) (o : Obj) : S2 w0 (ext own w 50) (w.alloc o) p q rp tp p2 xo r s m M0 l := h.none_ ⟨(Upd.refl _ _).alloc _, fun b hb => ext_old _ _ _ hb⟩
theorem S2.cells (h : S2 w0 own w p q rp tp p2 xo r s m M0 l) : w.cell? ⟨xo, 0, none⟩ = some (.pointer (some ⟨p, 0, none⟩)) ∧ w.cell? ⟨xo, 2, none⟩ = some (.pointer (some ⟨rp, 0, none⟩)) ∧ w.cell? ⟨xo, 3, none⟩ = some (.pointer (some ⟨p2, 0, none⟩)) ∧ xo < w.heap.size := ⟨h.a.o.1.cell 0, h.a.o.1.cell 2, h.a.o.1.cell 3, h.a.o.1.lt⟩
theorem S2.upd (h : S2 w0 own w p q rp tp p2 xo r s m M0 l) : Upd (fun _ => False) w0 w := h.a.upd
end
/-- Set, whatever is said -/
theorem Sd.set_any {K : Nat} {own : Nat → Nat} {w : World} {p rp tp r : Nat} {s : Us} {m : Nat → Int} {l : List Tr} (h : Sd K own w p rp tp r s m l) (dev : Int) (x : Nat) (hx : x < 18446744073709551616) (d : Nat) (hne : dev ≠ (d : Int)) :
    Calls Try.prog 18 #[.pointer (some ⟨p, 0, none⟩), .int .i64 dev, .int .u64 (x : Int)] w fun e w' => ∃ z own' s', e = .returned (.int .i64 z) ∧ Step (fun x => K < x ∧ x ≤ K + 4) own w own' w' ∧ Sd K own' w' p rp tp r s' m l ∧ s'.rt d = s.rt d ∧ s'.rd = s.rd ∧ s'.ov = s.ov := by
  by_cases hb : ¬ (0 ≤ dev ∧ dev < 8) ∨ x = 0
  · refine (io_Set_bad dev x hb w).mono ?_
    rintro e w1 ⟨rfl, rfl⟩
    exact ⟨_, own, s, rfl, Step.refl _ _ _, h, rfl, rfl, rfl⟩
  · obtain ⟨k, rfl⟩ := Int.eq_ofNat_of_zero_le (show 0 ≤ dev by omega)
    refine (io_Set h.u k x (by omega) (by omega)).mono ?_
    rintro e w1 ⟨rfl, hS, hU⟩
    refine ⟨_, own, usRt s k x, rfl, hS.mono (fun _ h => by omega), ⟨hU, h.mm.step hS (by omega), h.t.step hS (by omega) (by omega), h.ok.kRt k x hx, h.el⟩, ?_, rfl, rfl⟩
    show (if d = k then x else s.rt d) = s.rt d
    rw [if_neg (by omega)]
/-- behind j accesses of the device d -/
structure BI (d : Nat) (L : List OpR) (ring : Bool) (w0 : World) (own : Nat → Nat) (w : World) (p q rp tp p2 xo : Nat) (s : Us) (m M0 : Nat → Int) (l : List Tr) (j : Nat) : Prop where
  a : S2 w0 own w p q rp tp p2 xo 8 s m M0 l
  rt : s.rt d = 0
  mem : ∀ x, x < 28672 → m x = M0 x
  yes : ring = true → QS 8 s m ((recL d L).take (min j 255)) (decide (255 < j)) ∧ s.ring = 28672
  no : ring = false → s.rd = false ∧ s.ov = decide (0 < j)
theorem put_low (m : Nat → Int) (o k : Nat) (v : Int) {x : Nat} (h : x < o) : put m o k v x = m x := by
  unfold put
  rw [if_neg (by omega)]
section
variable {d : Nat} {L : List OpR} {ring : Bool} {w0 w : World} {own : Nat → Nat} {p q rp tp p2 xo : Nat} {s : Us} {m M0 : Nat → Int} {l : List Tr} {j : Nat}
theorem recS_ring (s : Us) : (recS s).ring = s.ring := by unfold recS; split <;> rfl
theorem recS_un_ov (s : Us) (h : s.rd = false) : (recS s).ov = true := by unfold recS recOk; rw [h]; rfl
theorem BI.acc (h : BI d L ring w0 own w p q rp tp p2 xo s m M0 l j) (hd : d < 8) {x : OpR} (hx : L[j]? = some x) (hb : OpB x) :
    Calls Try.prog 19 #[.pointer (some ⟨p, 0, none⟩), .int .i64 (d : Int), .int .u64 (x.a : Int), .int .i64 x.s, .bool x.wr] w fun e w' => e = .returned (.tuple #[.int .u64 0, .bool false]) ∧
      ∃ own' s' m' l', BI d L ring w0 own' w' p q rp tp p2 xo s' m' M0 l' (j + 1) := by
  have hA := h.a.a.a.acc (by decide) d x.a hb.a x.s hb.s.1 hb.s.2 x.wr
  rw [accA_none hd h.rt] at hA
  simp only [] at hA
  have hk : kindN x.s x.a = 1 ∨ kindN x.s x.a = 4 := kindN_cases _ _
  rw [show (kindN x.s x.a == 0) = false from by simp; omega] at hA
  have e1 : accSt s (d : Int) (kindN x.s x.a) = recS s := by unfold accSt; rw [if_neg (by omega)]
  have e2 : accMt s m (d : Int) (kindN x.s x.a) x.a = recM s m (d : Int) (kindN x.s x.a : Int) (x.a : Int) := by unfold accMt; rw [if_neg (by omega)]
  rw [e1, e2] at hA
  refine hA.mono ?_
  rintro e w1 ⟨rfl, own1, hS, hB⟩
  refine ⟨rfl, own1, _, _, _, h.a.step hS hB, by rw [recS_rt]; exact h.rt, fun y hy => ?_, fun hr => ?_, fun hr => ?_⟩
  · rw [← h.mem y hy]
    cases hr : ring with
    | true =>
      have hrg := (h.yes hr).2
      unfold recM
      split
      · have hA : 28672 ≤ recA s := by unfold recA; omega
        rw [put_low _ _ _ _ (by omega), put_low _ _ _ _ (by omega), put_low _ _ _ _ (by omega)]
      · rfl
    | false =>
      unfold recM
      rw [show recOk s = false from by unfold recOk; rw [(h.no hr).1]; rfl]
      rfl
  · obtain ⟨h1, h2⟩ := h.yes hr
    have hp := h1.push d (kindN x.s x.a) x.a (by omega) (by omega) hb.a
    obtain ⟨e3, e4⟩ := recL_push (d := d) hx
    rw [e3, e4] at hp
    exact ⟨hp, by rw [recS_ring]; exact h2⟩
  · obtain ⟨h1, h2⟩ := h.no hr
    exact ⟨by rw [recS_rd]; exact h1, by rw [recS_un_ov s h1]; simp⟩
end
end Go.Proofs.Ytlgcplekcmocbaa
