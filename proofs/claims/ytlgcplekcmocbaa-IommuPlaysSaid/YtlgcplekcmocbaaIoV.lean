import Derived.Test.YtlgcplekcmocbaaIoN
import Derived.Test.YtlgcplekcmocbaaTlb3
/- One side of a law over the IOMMU: its state; Access, Set, Invalidate, Entries; what is remembered does not matter. -/
namespace Go.Proofs.Ytlgcplekcmocbaa
set_option linter.unusedVariables false
set_option linter.unusedSimpArgs false
open Go.RowKit
set_option maxRecDepth 100000

/-- what an access comes to, by the tables alone -/
def accTT (n : Nat) (m : Nat → Int) (s : Us) (dev : Int) (a : Nat) (sz : Int) (wr : Bool) : Nat × Nat :=
  if wellA sz a = false then (0, 4) else if rootP s dev = 0 then (0, 1) else accT n m (rootP s dev) a sz.toNat (accW wr)
theorem accW_cases (wr : Bool) : accW wr = 2 ∨ accW wr = 3 := by unfold accW; split <;> simp
theorem rootP_pos {s : Us} {dev : Int} (h : rootP s dev ≠ 0) : ∃ d : Nat, dev = d ∧ d < 8 ∧ rootP s dev = s.rt d ∧ s.rt d ≠ 0 := by
  have hd : 0 ≤ dev ∧ dev < 8 := by
    unfold rootP at h
    split at h
    · assumption
    · exact absurd rfl h
  obtain ⟨d, rfl⟩ := Int.eq_ofNat_of_zero_le hd.1
  have e : rootP s (d : Int) = s.rt d := by unfold rootP; rw [if_pos hd]; rfl
  exact ⟨d, rfl, by omega, e, by rw [← e]; exact h⟩
theorem accA_sound {n : Nat} {m : Nat → Int} (hm : ∀ x, 0 ≤ m x ∧ m x < 256) {s : Us} {l : List Tr} (h : SoundL n m s.rt l) (room : Nat) (dev : Int) (a : Nat) (sz : Int) (wr : Bool) :
    ((accA n m s room l dev a sz wr).1, (accA n m s room l dev a sz wr).2.1) = accTT n m s dev a sz wr ∧ SoundL n m s.rt (accA n m s room l dev a sz wr).2.2 := by
  unfold accA accTT
  split
  · exact ⟨rfl, h⟩
  · split
    · exact ⟨rfl, h⟩
    · rename_i hr
      obtain ⟨d, rfl, hd, e, hr2⟩ := rootP_pos hr
      rw [e]
      exact accL_sound hm h hd hr2 (accW_cases wr) room a sz.toNat
theorem putT_mem {room : Nat} {l : List Tr} {t x : Tr} (hx : x ∈ putT room l t) : x ∈ l ∨ x = t := by
  have hsub : ∀ x ∈ flushP l t.v t.p, x ∈ l := fun x hx => (List.mem_filter.1 hx).1
  unfold putT at hx
  rcases List.mem_append.1 hx with hx | hx
  · refine .inl (hsub x ?_)
    split at hx
    · exact List.mem_of_mem_drop hx
    · exact hx
  · exact .inr (List.mem_singleton.1 hx)
/-- an access puts in entries of its device alone -/
theorem accA_v (n : Nat) (m : Nat → Int) (s : Us) (room : Nat) (l : List Tr) (dev : Int) (a : Nat) (sz : Int) (wr : Bool) : ∀ t ∈ (accA n m s room l dev a sz wr).2.2, t ∈ l ∨ t.v = dev := by
  intro t ht
  unfold accA at ht
  split at ht
  · exact .inl ht
  · split at ht
    · exact .inl ht
    · rename_i hr
      obtain ⟨d, rfl, hd, e, hr2⟩ := rootP_pos hr
      rw [e] at ht
      rw [Int.toNat_natCast] at ht
      unfold accL at ht
      split at ht
      · split at ht
        · split at ht <;> exact .inl ht
        · split at ht
          · exact .inl ht
          · split at ht
            all_goals
              rcases putT_mem ht with h | h
              · exact .inl h
              · subst h; exact .inr rfl
      · split at ht
        · exact .inl ht
        · split at ht
          all_goals
            rcases putT_mem ht with h | h
            · exact .inl h
            · subst h; exact .inr rfl
theorem accSt_rt (s : Us) (dev : Int) (k : Nat) : (accSt s dev k).rt = s.rt := by unfold accSt; split; rfl; exact recS_rt s
theorem recS_rd (s : Us) : (recS s).rd = s.rd := by unfold recS; split <;> rfl
theorem accSt_rd (s : Us) (dev : Int) (k : Nat) : (accSt s dev k).rd = s.rd := by unfold accSt; split; rfl; exact recS_rd s
theorem accMt_noring {s : Us} (h : s.rd = false) (m : Nat → Int) (dev : Int) (k a : Nat) : accMt s m dev k a = m := by
  unfold accMt
  split
  · rfl
  · unfold recM
    rw [show recOk s = false from by unfold recOk; rw [h]; rfl]
    rfl
theorem accSt_ok {n : Nat} {s : Us} (h : UsOk n s) (dev : Int) (k : Nat) : UsOk n (accSt s dev k) := by unfold accSt; split; exact h; exact h.kRec
def setR (x : Nat) : Int := if x = 0 then 1 else 0
/-- the colours of one side from K on -/
structure Sd (K : Nat) (own : Nat → Nat) (w : World) (p rp tp r : Nat) (s : Us) (m : Nat → Int) (l : List Tr) : Prop where
  u : UsAt own (K + 1) w p rp tp s
  mm : MemAt ramK own (K + 2) w rp 0 8 m
  t : TlbAt own (K + 3) (K + 4) w tp r l
  ok : UsOk 8 s
  el : EntsOk l
section
variable {K : Nat} {own own' : Nat → Nat} {w w' : World} {p rp tp r : Nat} {s : Us} {m : Nat → Int} {l : List Tr}
theorem Sd.step {C : Nat → Prop} (h : Sd K own w p rp tp r s m l) (hS : Step C own w own' w') (hC : ∀ x, C x → x ≤ K ∨ K + 4 < x) : Sd K own' w' p rp tp r s m l :=
  ⟨h.u.step hS (fun h => by have := hC _ h; omega), h.mm.step hS (fun h => by have := hC _ h; omega), h.t.step hS (fun h => by have := hC _ h; omega) (fun h => by have := hC _ h; omega), h.ok, h.el⟩
theorem Sd.acc (h : Sd K own w p rp tp r s m l) (hK : K + 2 ≠ 7) (dev : Int) (a : Nat) (ha : a < 18446744073709551616) (sz : Int) (hs0 : -9223372036854775808 ≤ sz) (hs1 : sz ≤ 9223372036854775807) (wr : Bool) :
    Calls Try.prog 19 #[.pointer (some ⟨p, 0, none⟩), .int .i64 dev, .int .u64 (a : Int), .int .i64 sz, .bool wr] w fun e w' =>
      e = .returned (.tuple #[.int .u64 ((accA 8 m s r l dev a sz wr).1 : Nat), .bool ((accA 8 m s r l dev a sz wr).2.1 == 0)]) ∧
      ∃ own', Step (fun x => K < x ∧ x ≤ K + 4) own w own' w' ∧ Sd K own' w' p rp tp r (accSt s dev (accA 8 m s r l dev a sz wr).2.1) (accMt s m dev (accA 8 m s r l dev a sz wr).2.1 a) (accA 8 m s r l dev a sz wr).2.2 := by
  refine (io_Access h.u h.mm h.t (by omega) (by omega) h.ok h.el dev a ha sz hs0 hs1 wr).mono ?_
  rintro e w1 ⟨rfl, own1, hS, hU, hM, hT, hl⟩
  exact ⟨rfl, own1, hS.mono (fun _ h => by omega), hU, hM, hT, accSt_ok h.ok _ _, hl⟩
theorem Sd.set (h : Sd K own w p rp tp r s m l) (d x : Nat) (hd : d < 8) (hz : s.rt d = 0) (hx : x < 18446744073709551616) :
    Calls Try.prog 18 #[.pointer (some ⟨p, 0, none⟩), .int .i64 (d : Int), .int .u64 (x : Int)] w fun e w' => e = .returned (.int .i64 (setR x)) ∧ ∃ own', Step (fun x => K < x ∧ x ≤ K + 4) own w own' w' ∧ Sd K own' w' p rp tp r (usRt s d x) m l := by
  by_cases h0 : x = 0
  · subst h0
    have e : usRt s d 0 = s := by
      unfold usRt
      obtain ⟨rt, mg, mi, ring, rd, fi, un, ov⟩ := s
      simp only [] at hz ⊢
      congr 1
      funext y
      split
      · rename_i hy; subst hy; exact hz.symm
      · rfl
    rw [e, show setR 0 = 1 from rfl]
    refine (io_Set_bad d 0 (.inr rfl) w).mono ?_
    rintro e w1 ⟨rfl, rfl⟩
    exact ⟨rfl, own, Step.refl _ _ _, h⟩
  · rw [show setR x = 0 from if_neg h0]
    refine (io_Set h.u d x hd h0).mono ?_
    rintro e w1 ⟨rfl, hS, hU⟩
    exact ⟨rfl, own, hS.mono (fun _ h => by omega), hU, h.mm.step hS (by omega), h.t.step hS (by omega) (by omega), h.ok.kRt d x hx, h.el⟩
theorem io_Invalidate {c ct cd : Nat} (hU : UsAt own c w p rp tp s) (hT : TlbAt own ct cd w tp r l) (hcd : ct ≠ cd) (dev : Int) :
    Calls Try.prog 21 #[.pointer (some ⟨p, 0, none⟩), .int .i64 dev] w fun e w' => e = .returned (.tuple #[]) ∧ ∃ own', Step (· = ct) own w own' w' ∧ TlbAt own' ct cd w' tp r (flushT l dev) := by
  obtain ⟨c0, c1, _⟩ := hU.rest
  have HF := Lib.hid (tlb_Flush hT hcd dev)
  clear hU hT
  go_enter Try.func21, Try.ntmps21
  go_wp2_with fail
  ((with_reducible refine HF.out.mono ?_); rintro e w1 ⟨rfl, h1⟩)
  have H1 := Lib.hid h1
  clear h1 HF
  go_wp2
  go_end0
  exact ⟨rfl, H1.out⟩
theorem io_Entries {c ct cd : Nat} (hU : UsAt own c w p rp tp s) (hT : TlbAt own ct cd w tp r l) (d' : Nat) :
    Calls Try.prog 25 #[.pointer (some ⟨p, 0, none⟩)] w fun e w' => ∃ v', e = .returned v' ∧ Step (fun _ => False) own w (ext own w d') w' ∧ Rw 115 4 (ext own w d') d' w' v' l.length (trsC l) := by
  obtain ⟨c0, c1, _⟩ := hU.rest
  have HE := Lib.hid (tlb_Entries hT d')
  clear hU hT
  go_enter Try.func25, Try.ntmps25
  go_wp2_with fail
  ((with_reducible refine HE.out.mono ?_); rintro e w1 ⟨v, rfl, h1, h2⟩)
  have H1 := Lib.hid (And.intro h1 h2)
  obtain ⟨A2, cap2, hv2, _⟩ := h2.form
  subst hv2
  clear h1 h2 HE
  go_wp2
  go_ret
  exact ⟨_, rfl, H1.out⟩
theorem EntsOk.flush (h : EntsOk l) (v : Int) : EntsOk (flushT l v) := fun t ht => h t (List.mem_filter.1 ht).1
theorem Sd.inv (h : Sd K own w p rp tp r s m l) (dev : Int) :
    Calls Try.prog 21 #[.pointer (some ⟨p, 0, none⟩), .int .i64 dev] w fun e w' => e = .returned (.tuple #[]) ∧ ∃ own', Step (fun x => K < x ∧ x ≤ K + 4) own w own' w' ∧ Sd K own' w' p rp tp r s m (flushT l dev) := by
  refine (io_Invalidate h.u h.t (by omega) dev).mono ?_
  rintro e w1 ⟨rfl, own1, hS, hT⟩
  exact ⟨rfl, own1, hS.mono (fun _ h => by omega), h.u.step hS (by omega), h.mm.step hS (by omega), hT, h.ok, h.el.flush dev⟩
end
theorem SoundL.nil (n : Nat) (m : Nat → Int) (rt : Nat → Nat) : SoundL n m rt [] := fun t ht => by cases ht
theorem rootP_congr {s s' : Us} (h : s.rt = s'.rt) (dev : Int) : rootP s dev = rootP s' dev := by unfold rootP; rw [h]
theorem accTT_congr {n : Nat} {m : Nat → Int} {s s' : Us} (h : s.rt = s'.rt) (dev : Int) (a : Nat) (sz : Int) (wr : Bool) : accTT n m s dev a sz wr = accTT n m s' dev a sz wr := by
  unfold accTT; rw [rootP_congr h]
theorem flush_all {l : List Tr} {v : Int} (h : ∀ t ∈ l, t.v = v) : flushT l v = [] := by
  unfold flushT
  rw [List.filter_eq_nil_iff]
  intro t ht
  simp [h t ht]
theorem Sd.of_on {K : Nat} {own : Nat → Nat} {w : World} {p q rp tp p2 t2 r : Nat} {s' : Us} {m m' : Nat → Int} {l' : List Tr} {ms : List To4} (h : OnAt K own w p q rp tp p2 t2 r us0 s' m m' [] l' ms) : Sd K own w p rp tp r us0 m [] :=
  ⟨h.u, h.mm, h.t, UsOk.init 8, fun t ht => by cases ht⟩
end Go.Proofs.Ytlgcplekcmocbaa
