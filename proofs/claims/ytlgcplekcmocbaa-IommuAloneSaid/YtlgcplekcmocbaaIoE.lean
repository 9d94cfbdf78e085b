import Derived.Test.YtlgcplekcmocbaaIoF
/- IommuAlone: the walk. -/
namespace Go.Proofs.Ytlgcplekcmocbaa
set_option linter.unusedVariables false
set_option linter.unusedSimpArgs false
open Go.RowKit
set_option maxRecDepth 100000

theorem OpsAt.take {w : World} {A : Option Addr} {cap : Nat} {L : List OpR} (h : OpsAt w (.slice A L.length cap) L) (k : Nat) : OpsAt w (.slice A (L.take k).length cap) (L.take k) := by
  obtain ⟨A', cap', he, hf⟩ := h
  cases he
  refine ⟨A, cap, rfl, fun hl => ?_⟩
  obtain ⟨g, o, hA, hg, hc⟩ := hf (by rw [List.length_take] at hl; omega)
  refine ⟨g, o, hA, hg, fun i x hx j u hu => hc i x ?_ j u hu⟩
  rw [List.getElem?_take] at hx
  split at hx
  · exact hx
  · cases hx
theorem OpsAt.some {w : World} {A : Option Addr} {cap : Nat} {L : List OpR} (h : OpsAt w (.slice A L.length cap) L) (hl : 0 < L.length) : ∃ g o, A = some ⟨g, o, none⟩ := by
  obtain ⟨A', cap', he, hf⟩ := h
  cases he
  obtain ⟨g, o, hA, _⟩ := hf hl
  exact ⟨g, o, hA⟩
/-- what the law carries along: two IOMMUs over the same memory, what each remembers says what its tables say -/
def AI (w0 : World) (own : Nat → Nat) (w : World) (p q rp tp p2 xo p' q' rp' tp' p2' xo' : Nat) (M0 : Nat → Int) (RT RT2 : Nat → Nat) : Prop :=
  ∃ s s' l l', FB w0 own w p q rp tp p2 xo p' q' rp' tp' p2' xo' 64 s s' M0 M0 l l' ∧ SoundL 8 M0 RT l ∧ SoundL 8 M0 RT2 l' ∧ s.rt = RT ∧ s'.rt = RT2 ∧ s.rd = false ∧ s'.rd = false
def usT (RT : Nat → Nat) : Us := { us0 with rt := RT }
section
variable {w0 w : World} {own : Nat → Nat} {p q rp tp p2 xo p' q' rp' tp' p2' xo' : Nat} {M0 : Nat → Int} {RT RT2 : Nat → Nat}
theorem AI.none_ {own' : Nat → Nat} {w' : World} (h : AI w0 own w p q rp tp p2 xo p' q' rp' tp' p2' xo' M0 RT RT2) (hS : Step (fun _ => False) own w own' w') : AI w0 own' w' p q rp tp p2 xo p' q' rp' tp' p2' xo' M0 RT RT2 := by
  obtain ⟨s, s', l, l', hB, r⟩ := h
  exact ⟨s, s', l, l', hB.none_ hS, r⟩
theorem AI.drew (h : AI w0 own w p q rp tp p2 xo p' q' rp' tp' p2' xo' M0 RT RT2) : AI w0 own w.drew p q rp tp p2 xo p' q' rp' tp' p2' xo' M0 RT RT2 := h.none_ (Step.refl _ _ _).drew
theorem AI.upd (h : AI w0 own w p q rp tp p2 xo p' q' rp' tp' p2' xo' M0 RT RT2) : Upd (fun _ => False) w0 w := by
  obtain ⟨s, s', l, l', hB, r⟩ := h
  exact hB.upd
theorem AI.cells (h : AI w0 own w p q rp tp p2 xo p' q' rp' tp' p2' xo' M0 RT RT2) : w.cell? ⟨xo, 0, none⟩ = some (.pointer (some ⟨p, 0, none⟩)) ∧ xo < w.heap.size ∧ w.cell? ⟨xo', 0, none⟩ = some (.pointer (some ⟨p', 0, none⟩)) ∧ xo' < w.heap.size := by
  obtain ⟨s, s', l, l', hB, r⟩ := h
  exact hB.cells
theorem AI.goA (h : AI w0 own w p q rp tp p2 xo p' q' rp' tp' p2' xo' M0 RT RT2) (dev : Int) (a : Nat) (ha : a < 18446744073709551616) (sz : Int) (hs : i64B sz) (wr : Bool) :
    Calls Try.prog 19 #[.pointer (some ⟨p, 0, none⟩), .int .i64 dev, .int .u64 (a : Int), .int .i64 sz, .bool wr] w fun e w' =>
      e = .returned (.tuple #[.int .u64 ((accTT 8 M0 (usT RT) dev a sz wr).1 : Nat), .bool ((accTT 8 M0 (usT RT) dev a sz wr).2 == 0)]) ∧ ∃ own', AI w0 own' w' p q rp tp p2 xo p' q' rp' tp' p2' xo' M0 RT RT2 := by
  obtain ⟨s, s', l, l', hB, h1, h2, r1, r2, d1, d2⟩ := h
  have hs1 := accA_sound (n := 8) hB.a.mm.bd (s := s) (l := l) (by rw [r1]; exact h1) 64 dev a sz wr
  have hA := hB.a.acc (by decide) dev a ha sz hs.1 hs.2 wr
  rw [accTT_congr (s' := usT RT) (show s.rt = (usT RT).rt from r1)] at hs1
  generalize accA 8 M0 s 64 l dev a sz wr = RA at *
  obtain ⟨PA, KD, LA⟩ := RA
  simp only [] at hs1 hA
  rw [← hs1.1]
  refine hA.mono ?_
  rintro e w1 ⟨rfl, own1, hS, hd⟩
  rw [accMt_noring d1] at hd
  exact ⟨rfl, own1, _, s', LA, l', hB.stepA hS hd, by rw [← r1]; exact hs1.2, h2, (accSt_rt _ _ _).trans r1, r2, (accSt_rd _ _ _).trans d1, d2⟩
theorem AI.goB (h : AI w0 own w p q rp tp p2 xo p' q' rp' tp' p2' xo' M0 RT RT2) (dev : Int) (a : Nat) (ha : a < 18446744073709551616) (sz : Int) (hs : i64B sz) (wr : Bool) :
    Calls Try.prog 19 #[.pointer (some ⟨p', 0, none⟩), .int .i64 dev, .int .u64 (a : Int), .int .i64 sz, .bool wr] w fun e w' =>
      e = .returned (.tuple #[.int .u64 ((accTT 8 M0 (usT RT2) dev a sz wr).1 : Nat), .bool ((accTT 8 M0 (usT RT2) dev a sz wr).2 == 0)]) ∧ ∃ own', AI w0 own' w' p q rp tp p2 xo p' q' rp' tp' p2' xo' M0 RT RT2 := by
  obtain ⟨s, s', l, l', hB, h1, h2, r1, r2, d1, d2⟩ := h
  have hs1 := accA_sound (n := 8) hB.b.mm.bd (s := s') (l := l') (by rw [r2]; exact h2) 64 dev a sz wr
  have hA := hB.b.acc (by decide) dev a ha sz hs.1 hs.2 wr
  rw [accTT_congr (s' := usT RT2) (show s'.rt = (usT RT2).rt from r2)] at hs1
  generalize accA 8 M0 s' 64 l' dev a sz wr = RA at *
  obtain ⟨PA, KD, LA⟩ := RA
  simp only [] at hs1 hA
  rw [← hs1.1]
  refine hA.mono ?_
  rintro e w1 ⟨rfl, own1, hS, hd⟩
  rw [accMt_noring d2] at hd
  exact ⟨rfl, own1, s, _, l, LA, hB.stepB hS hd, h1, by rw [← r2]; exact hs1.2, r1, (accSt_rt _ _ _).trans r2, d1, (accSt_rd _ _ _).trans d2⟩
end
theorem accTT_congr0 {n : Nat} {m : Nat → Int} {s s' : Us} (dev : Int) (h : rootP s dev = rootP s' dev) (a : Nat) (sz : Int) (wr : Bool) : accTT n m s dev a sz wr = accTT n m s' dev a sz wr := by
  unfold accTT; rw [h]
set_option maxHeartbeats 8000000 in
theorem alone_calls (w : World) (v : Value) (cs : List (Int × Nat)) (hv : CellsAt w v cs) (hlen : cs.length ≤ 9223372036854775807) (hb : ∀ x ∈ cs, -9223372036854775808 ≤ x.1 ∧ x.1 ≤ 9223372036854775807 ∧ x.2 < 18446744073709551616)
    (root other : Nat) (hroot : root < 18446744073709551616) (hother : other < 18446744073709551616) (A : Option Addr) (cap : Nat) (L : List OpR) (hL : OpsAt w (.slice A L.length cap) L) (hLb : ∀ o ∈ L, OpB o) (hLl : L.length ≤ cap ∧ cap ≤ 9223372036854775807)
    (B : Option Addr) (capB : Nat) (M : List OpR) (hM : OpsAt w (.slice B M.length capB) M) (hMb : ∀ o ∈ M, OpB o) (hMl : M.length ≤ capB ∧ capB ≤ 9223372036854775807) :
    Calls Try.prog 4 #[v, .int .u64 (root : Int), .int .u64 (other : Int), .slice A L.length cap, .slice B M.length capB] w fun e w' => e = .returned (.bool true) ∧ Upd (fun _ => False) w w' := by
  obtain ⟨M0, hM0⟩ : ∃ M0, cellsM 8 (fun _ => 0) cs = M0 := ⟨_, rfl⟩
  have hN := law07_NewC 0 (fun _ => 0) 64 (by decide) w v cs hv hlen hb
  have hN2 := fun (own1 : Nat → Nat) (w1 : World) (hU : Upd (fun _ => False) w w1) => law07_NewC 20 own1 64 (by decide) w1 v cs (hv.upd hU) hlen hb
  rw [hM0, show ((64 : Nat) : Int) = 64 from rfl] at hN
  simp only [hM0, show ((64 : Nat) : Int) = 64 from rfl] at hN2
  have HN := Lib.hid hN
  have HN2 := Lib.hid hN2
  obtain ⟨A0, cap0, rfl, _⟩ := hv
  have HL := Lib.hid (And.intro hL hLb)
  have HMM := Lib.hid (And.intro hM hMb)
  clear hN hN2 hlen hb hL hLb hM hMb hM0
  go_enter Try.func4, Try.ntmps4
  go_wp2_with fail
  ((with_reducible refine HN.out.mono ?_); rintro e w1 ⟨p, q, rp, tp, p2, t2, own1, rfl, hS1, hO1⟩)
  have hS2 : Step (fun _ => False) own1 w1 (ext own1 w1 50) (w1.alloc (.cells #[.pointer (some ⟨p, 0, none⟩), .pointer (some ⟨q, 0, none⟩), .pointer (some ⟨rp, 0, none⟩), .pointer (some ⟨p2, 0, none⟩)] 31)) := ⟨(Upd.refl _ _).alloc _, fun b hb => ext_old _ _ _ hb⟩
  have hSd1 := Sd.of_on (hO1.step hS2 (fun x h => h.elim))
  have hX := (hS1.trans hS2)
  have HN3 := Lib.hid (HN2.out (ext own1 w1 50) (w1.alloc (.cells #[.pointer (some ⟨p, 0, none⟩), .pointer (some ⟨q, 0, none⟩), .pointer (some ⟨rp, 0, none⟩), .pointer (some ⟨p2, 0, none⟩)] 31)) hX.upd)
  have H1 := Lib.hid (And.intro hX (And.intro hSd1 (And.intro (Blk.new w1 31 #[.pointer (some ⟨p, 0, none⟩), .pointer (some ⟨q, 0, none⟩), .pointer (some ⟨rp, 0, none⟩), .pointer (some ⟨p2, 0, none⟩)]) (show ext own1 w1 50 w1.heap.size = 50 from ext_new _ _ _ (Nat.le_refl _)))))
  clear hS1 hO1 hS2 hSd1 hX HN HN2
  go_wp2_with fail
  generalize w1.heap.size = xo at *
  ((with_reducible refine HN3.out.mono ?_); rintro e w2 ⟨p', q', rp', tp', p2', t2', own2, rfl, hS3, hO3⟩)
  have hS4 : Step (fun _ => False) own2 w2 (ext own2 w2 50) (w2.alloc (.cells #[.pointer (some ⟨p', 0, none⟩), .pointer (some ⟨q', 0, none⟩), .pointer (some ⟨rp', 0, none⟩), .pointer (some ⟨p2', 0, none⟩)] 31)) := ⟨(Upd.refl _ _).alloc _, fun b hb => ext_old _ _ _ hb⟩
  have hSd2 := Sd.of_on (hO3.step hS4 (fun x h => h.elim))
  have hSa := hS3.trans hS4
  have hB3 : FB w (ext own2 w2 50) (w2.alloc (.cells #[.pointer (some ⟨p', 0, none⟩), .pointer (some ⟨q', 0, none⟩), .pointer (some ⟨rp', 0, none⟩), .pointer (some ⟨p2', 0, none⟩)] 31)) p q rp tp p2 xo p' q' rp' tp' p2' w2.heap.size 64 us0 us0 M0 M0 [] [] :=
    ⟨(H1.out.1.trans hSa).mono (fun _ h => h.elim), H1.out.2.1.step hSa (fun x h => h.elim), hSd2, hSa.blk H1.out.2.2.1 H1.out.2.2.2 (fun h => h), Blk.new w2 _ _, ext_new _ _ _ (Nat.le_refl _)⟩
  have HA1 := hB3.a.set 0 root (by decide) rfl hroot
  rw [show ((0 : Nat) : Int) = 0 from rfl] at HA1
  have HA := Lib.hid HA1
  obtain ⟨x0, xl, x1, xl'⟩ := hB3.cells
  have H3 := Lib.hid hB3
  obtain ⟨L2, hL2⟩ : ∃ L2, L.take 30 = L2 := ⟨_, rfl⟩
  obtain ⟨M2, hM2⟩ : ∃ M2, M.take 30 = M2 := ⟨_, rfl⟩
  have HL2 := Lib.hid (show OpsAt w (.slice A L2.length cap) L2 ∧ ∀ o ∈ L2, OpB o from by rw [← hL2]; exact ⟨HL.out.1.take 30, fun o ho => HL.out.2 o (List.mem_of_mem_take ho)⟩)
  have HM2 := Lib.hid (show OpsAt w (.slice B M2.length capB) M2 ∧ ∀ o ∈ M2, OpB o from by rw [← hM2]; exact ⟨HMM.out.1.take 30, fun o ho => HMM.out.2 o (List.mem_of_mem_take ho)⟩)
  have hl2 : L2.length = min 30 L.length := by rw [← hL2, List.length_take]
  have hm2 : M2.length = min 30 M.length := by rw [← hM2, List.length_take]
  clear hS3 hO3 hS4 hSd2 hSa hB3 HA1 HN3 H1 hL2 hM2
  go_upto_if 48 with fail
  generalize w2.heap.size = xo' at *
  go_cut [3] (fun s3 wx => s3 = .slice A L2.length cap ∧ wx = w2.alloc (.cells #[.pointer (some ⟨p', 0, none⟩), .pointer (some ⟨q', 0, none⟩), .pointer (some ⟨rp', 0, none⟩), .pointer (some ⟨p2', 0, none⟩)] 31))
  case first =>
    by_cases hc : 30 < L.length
    · obtain ⟨g, o, rfl⟩ := HL.out.1.some (by omega)
      have hcd : decide ((30 : Int) < (L.length : Int)) = true := by simp; omega
      have hc30 : (30 : Int) ≤ (cap : Int) := by omega
      have hl30 : L2.length = 30 := by omega
      go_wp2
      go_meet
      exact ⟨by rw [hl30]; try rfl, rfl⟩
    · have hcd : decide ((30 : Int) < (L.length : Int)) = false := by simp; omega
      have hl30 : L2.length = L.length := by omega
      go_wp2
      go_meet
      exact ⟨by rw [hl30], rfl⟩
  case rest =>
  obtain ⟨rfl, rfl⟩ := hcut
  go_upto_if 53 with fail
  go_cut [4] (fun s4 wx => s4 = .slice B M2.length capB ∧ wx = w2.alloc (.cells #[.pointer (some ⟨p', 0, none⟩), .pointer (some ⟨q', 0, none⟩), .pointer (some ⟨rp', 0, none⟩), .pointer (some ⟨p2', 0, none⟩)] 31))
  case first =>
    by_cases hc : 30 < M.length
    · obtain ⟨g, o, rfl⟩ := HMM.out.1.some (by omega)
      have hcd : decide ((30 : Int) < (M.length : Int)) = true := by simp; omega
      have hc30 : (30 : Int) ≤ (capB : Int) := by omega
      have hl30 : M2.length = 30 := by omega
      go_wp2
      go_meet
      exact ⟨by rw [hl30]; try rfl, rfl⟩
    · have hcd : decide ((30 : Int) < (M.length : Int)) = false := by simp; omega
      have hl30 : M2.length = M.length := by omega
      go_wp2
      go_meet
      exact ⟨by rw [hl30], rfl⟩
  case rest =>
  obtain ⟨rfl, rfl⟩ := hcut
  clear HL HMM
  go_wp2_with fail
  ((with_reducible refine HA.out.mono ?_); rintro e w4 ⟨rfl, own4, hS4, hA4⟩)
  have hB4 := H3.out.stepA hS4 hA4
  have HA1 := hB4.b.set 0 root (by decide) rfl hroot
  rw [show ((0 : Nat) : Int) = 0 from rfl] at HA1
  have HA2 := Lib.hid HA1
  have H4 := Lib.hid hB4
  obtain ⟨x0, xl, x1, xl'⟩ := hB4.cells
  clear hS4 hA4 hB4 HA1 HA H3
  go_wp2_with fail
  ((with_reducible refine HA2.out.mono ?_); rintro e w5 ⟨rfl, own5, hS5, hA5⟩)
  have hB5 := H4.out.stepB hS5 hA5
  have HA1 := hB5.b.set 1 other (by decide) rfl hother
  rw [show ((1 : Nat) : Int) = 1 from rfl] at HA1
  have HA3 := Lib.hid HA1
  have H5 := Lib.hid hB5
  obtain ⟨x0, xl, x1, xl'⟩ := hB5.cells
  clear hS5 hA5 hB5 HA1 HA2 H4
  go_wp2_with fail
  ((with_reducible refine HA3.out.mono ?_); rintro e w6 ⟨rfl, own6, hS6, hA6⟩)
  have hB6 := H5.out.stepB hS6 hA6
  obtain ⟨RT, hRT⟩ : ∃ RT, (usRt us0 0 root).rt = RT := ⟨_, rfl⟩
  obtain ⟨RT2, hRT2⟩ : ∃ RT, (usRt (usRt us0 0 root) 1 other).rt = RT := ⟨_, rfl⟩
  have h00 : rootP (usT RT) 0 = rootP (usT RT2) 0 := by rw [← hRT, ← hRT2]; rfl
  have H6 := Lib.hid (show ∃ own', AI w own' w6 p q rp tp p2 xo p' q' rp' tp' p2' xo' M0 RT RT2 from ⟨own6, _, _, _, _, hB6, SoundL.nil _ _ _, SoundL.nil _ _ _, hRT, hRT2, rfl, rfl⟩)
  have H00 := Lib.hid h00
  clear hS6 hA6 hB6 HA3 H5 hRT hRT2 x0 xl x1 xl' h00
  go_wp2
  go_loopw [15] (fun i wr => ∃ (j : Nat), j ≤ L2.length ∧ i = .int .i64 (j : Int) ∧ Hid (∃ own', AI w own' wr p q rp tp p2 xo p' q' rp' tp' p2' xo' M0 RT RT2)) (fun i _ => L2.length - (intOf i).toNat)
  case atStart => exact ⟨0, by omega, rfl, H6.out⟩
  case round =>
    rename World => wr
    obtain ⟨j, hj, rfl, HLo⟩ := hrel
    clear H6
    obtain ⟨own6, hI⟩ := HLo.out
    by_cases hlt : j < L2.length
    · have hlt' : (j : Int) < (L2.length : Int) := by omega
      have hget : L2[j]? = some L2[j] := List.getElem?_eq_getElem hlt
      have hob := HL2.out.2 _ (List.getElem_mem hlt)
      generalize L2[j] = x at *
      have HI := Lib.hid hI
      have HX := Lib.hid (And.intro hget hob)
      clear hI hget hob HLo
      go_upto_if 77 with fail
      go_cut [] (fun wx => Hid (∃ own', AI w own' wx p q rp tp p2 xo p' q' rp' tp' p2' xo' M0 RT RT2))
      case first =>
        by_cases hm : j < M2.length
        · have hmt : decide ((j : Int) < (M2.length : Int)) = true := by simp; omega
          have hlm : (j : Int) < (M2.length : Int) := by omega
          have hget : M2[j]? = some M2[j] := List.getElem?_eq_getElem hm
          have hob := HM2.out.2 _ (List.getElem_mem hm)
          obtain ⟨g, o, rfl, hg, c0, c1, c2, c3, c4, c5, c6, c7⟩ := (HM2.out.1.upd HI.out.upd).cells hget
          generalize M2[j] = y at *
          obtain ⟨yk, yd, ys, ya, yv, yw, yg, yq⟩ := y
          simp only [] at c2 c3 c5
          have HB := Lib.hid (HI.out.drew.goB 1 ya hob.a ys hob.s yw)
          obtain ⟨x0, xl, x1, xl'⟩ := HI.out.cells
          clear c0 c1 c4 c6 c7 hob hget hg
          go_wp2_with fail
          refine wpE_region (S := fun (W' : World) => W'.cell? ⟨xo', 0, none⟩ = some (.pointer (some ⟨p', 0, none⟩)) ∧ W'.cell? ⟨g, o + j * 8 + 2, none⟩ = some (.int .i64 ys) ∧ W'.cell? ⟨g, o + j * 8 + 3, none⟩ = some (.int .u64 (ya : Int)) ∧ W'.cell? ⟨g, o + j * 8 + 5, none⟩ = some (.bool yw)) (s := 17) (by kernel_rfl) ?_
          have hS : (fun (W' : World) => W'.cell? ⟨xo', 0, none⟩ = some (.pointer (some ⟨p', 0, none⟩)) ∧ W'.cell? ⟨g, o + j * 8 + 2, none⟩ = some (.int .i64 ys) ∧ W'.cell? ⟨g, o + j * 8 + 3, none⟩ = some (.int .u64 (ya : Int)) ∧ W'.cell? ⟨g, o + j * 8 + 5, none⟩ = some (.bool yw)) _ := ⟨x1, c2, c3, c5⟩
          refine wpE_take (i := 0) (oi := { dst := some 78, op := Go.Op.fieldAddr 31 (Go.Operand.tmp 13) 0, type := 0, pos := "law.go:216", after := #[], guard := none }) (v := ?_) rfl (by kernel_rfl) (fun _ _ _ h => h) (Or.inl ⟨by rfl, fun W hW => ?_⟩) hS ?_
          rotate_left
          · obtain ⟨hw1, hw2, hw3, hw4⟩ := hW; go_simp; (try go_bits); (try rw [if_pos (by omega)]); (try with_reducible rfl)
          (try simp only [Act.put, List.setIfInBounds_toArray, List.set_cons_succ, List.set_cons_zero])
          refine wpE_take (i := 1) (oi := { dst := some 79, op := Go.Op.load 24 (Go.Operand.tmp 78), type := 24, pos := "law.go:216", after := #[{ on := 0, ground := Go.Ground.data }], guard := none }) (v := ?_) rfl (by kernel_rfl) (fun _ _ _ h => h) (Or.inl ⟨by rfl, fun W hW => ?_⟩) hS ?_
          rotate_left
          · obtain ⟨hw1, hw2, hw3, hw4⟩ := hW; go_simp; (try go_bits); (try rw [if_pos (by omega)]); (try with_reducible rfl)
          (try simp only [Act.put, List.setIfInBounds_toArray, List.set_cons_succ, List.set_cons_zero])
          refine wpE_take (i := 2) (oi := { dst := some 80, op := Go.Op.move (Go.Operand.tmp 4), type := 49, pos := "law.go:216", after := #[], guard := none }) (v := ?_) rfl (by kernel_rfl) (fun _ _ _ h => h) (Or.inl ⟨by rfl, fun W hW => ?_⟩) hS ?_
          rotate_left
          · obtain ⟨hw1, hw2, hw3, hw4⟩ := hW; go_simp; (try go_bits); (try rw [if_pos (by omega)]); (try with_reducible rfl)
          (try simp only [Act.put, List.setIfInBounds_toArray, List.set_cons_succ, List.set_cons_zero])
          refine wpE_take (i := 3) (oi := { dst := some 81, op := Go.Op.move (Go.Operand.tmp 15), type := 3, pos := "law.go:216", after := #[], guard := none }) (v := ?_) rfl (by kernel_rfl) (fun _ _ _ h => h) (Or.inl ⟨by rfl, fun W hW => ?_⟩) hS ?_
          rotate_left
          · obtain ⟨hw1, hw2, hw3, hw4⟩ := hW; go_simp; (try go_bits); (try rw [if_pos (by omega)]); (try with_reducible rfl)
          (try simp only [Act.put, List.setIfInBounds_toArray, List.set_cons_succ, List.set_cons_zero])
          refine wpE_take (i := 4) (oi := { dst := some 82, op := Go.Op.indexAddr 49 (Go.Operand.tmp 80) (Go.Operand.tmp 81), type := 0, pos := "law.go:216", after := #[{ on := 2, ground := Go.Ground.data }, { on := 3, ground := Go.Ground.data }], guard := none }) (v := ?_) rfl (by kernel_rfl) (fun _ _ _ h => h) (Or.inl ⟨by rfl, fun W hW => ?_⟩) hS ?_
          rotate_left
          · obtain ⟨hw1, hw2, hw3, hw4⟩ := hW; go_simp; (try go_bits); (try rw [if_pos (by omega)]); (try with_reducible rfl)
          (try simp only [Act.put, List.setIfInBounds_toArray, List.set_cons_succ, List.set_cons_zero])
          refine wpE_take (i := 5) (oi := { dst := some 83, op := Go.Op.fieldAddr 54 (Go.Operand.tmp 82) 3, type := 0, pos := "law.go:216", after := #[{ on := 4, ground := Go.Ground.data }], guard := none }) (v := ?_) rfl (by kernel_rfl) (fun _ _ _ h => h) (Or.inl ⟨by rfl, fun W hW => ?_⟩) hS ?_
          rotate_left
          · obtain ⟨hw1, hw2, hw3, hw4⟩ := hW; go_simp; (try go_bits); (try rw [if_pos (by omega)]); (try with_reducible rfl)
          (try simp only [Act.put, List.setIfInBounds_toArray, List.set_cons_succ, List.set_cons_zero])
          refine wpE_take (i := 6) (oi := { dst := some 84, op := Go.Op.load 22 (Go.Operand.tmp 83), type := 22, pos := "law.go:216", after := #[{ on := 5, ground := Go.Ground.data }], guard := none }) (v := ?_) rfl (by kernel_rfl) (fun _ _ _ h => h) (Or.inl ⟨by rfl, fun W hW => ?_⟩) hS ?_
          rotate_left
          · obtain ⟨hw1, hw2, hw3, hw4⟩ := hW; go_simp; (try go_bits); (try rw [if_pos (by omega)]); (try with_reducible rfl)
          (try simp only [Act.put, List.setIfInBounds_toArray, List.set_cons_succ, List.set_cons_zero])
          refine wpE_take (i := 7) (oi := { dst := some 85, op := Go.Op.move (Go.Operand.tmp 4), type := 49, pos := "law.go:216", after := #[], guard := none }) (v := ?_) rfl (by kernel_rfl) (fun _ _ _ h => h) (Or.inl ⟨by rfl, fun W hW => ?_⟩) hS ?_
          rotate_left
          · obtain ⟨hw1, hw2, hw3, hw4⟩ := hW; go_simp; (try go_bits); (try rw [if_pos (by omega)]); (try with_reducible rfl)
          (try simp only [Act.put, List.setIfInBounds_toArray, List.set_cons_succ, List.set_cons_zero])
          refine wpE_take (i := 8) (oi := { dst := some 86, op := Go.Op.move (Go.Operand.tmp 15), type := 3, pos := "law.go:216", after := #[], guard := none }) (v := ?_) rfl (by kernel_rfl) (fun _ _ _ h => h) (Or.inl ⟨by rfl, fun W hW => ?_⟩) hS ?_
          rotate_left
          · obtain ⟨hw1, hw2, hw3, hw4⟩ := hW; go_simp; (try go_bits); (try rw [if_pos (by omega)]); (try with_reducible rfl)
          (try simp only [Act.put, List.setIfInBounds_toArray, List.set_cons_succ, List.set_cons_zero])
          refine wpE_take (i := 9) (oi := { dst := some 87, op := Go.Op.indexAddr 49 (Go.Operand.tmp 85) (Go.Operand.tmp 86), type := 0, pos := "law.go:216", after := #[{ on := 7, ground := Go.Ground.data }, { on := 8, ground := Go.Ground.data }], guard := none }) (v := ?_) rfl (by kernel_rfl) (fun _ _ _ h => h) (Or.inl ⟨by rfl, fun W hW => ?_⟩) hS ?_
          rotate_left
          · obtain ⟨hw1, hw2, hw3, hw4⟩ := hW; go_simp; (try go_bits); (try rw [if_pos (by omega)]); (try with_reducible rfl)
          (try simp only [Act.put, List.setIfInBounds_toArray, List.set_cons_succ, List.set_cons_zero])
          refine wpE_take (i := 10) (oi := { dst := some 88, op := Go.Op.fieldAddr 54 (Go.Operand.tmp 87) 2, type := 0, pos := "law.go:216", after := #[{ on := 9, ground := Go.Ground.data }], guard := none }) (v := ?_) rfl (by kernel_rfl) (fun _ _ _ h => h) (Or.inl ⟨by rfl, fun W hW => ?_⟩) hS ?_
          rotate_left
          · obtain ⟨hw1, hw2, hw3, hw4⟩ := hW; go_simp; (try go_bits); (try rw [if_pos (by omega)]); (try with_reducible rfl)
          (try simp only [Act.put, List.setIfInBounds_toArray, List.set_cons_succ, List.set_cons_zero])
          refine wpE_take (i := 11) (oi := { dst := some 89, op := Go.Op.load 3 (Go.Operand.tmp 88), type := 3, pos := "law.go:216", after := #[{ on := 10, ground := Go.Ground.data }], guard := none }) (v := ?_) rfl (by kernel_rfl) (fun _ _ _ h => h) (Or.inl ⟨by rfl, fun W hW => ?_⟩) hS ?_
          rotate_left
          · obtain ⟨hw1, hw2, hw3, hw4⟩ := hW; go_simp; (try go_bits); (try rw [if_pos (by omega)]); (try with_reducible rfl)
          (try simp only [Act.put, List.setIfInBounds_toArray, List.set_cons_succ, List.set_cons_zero])
          refine wpE_take (i := 12) (oi := { dst := some 90, op := Go.Op.move (Go.Operand.tmp 4), type := 49, pos := "law.go:216", after := #[], guard := none }) (v := ?_) rfl (by kernel_rfl) (fun _ _ _ h => h) (Or.inl ⟨by rfl, fun W hW => ?_⟩) hS ?_
          rotate_left
          · obtain ⟨hw1, hw2, hw3, hw4⟩ := hW; go_simp; (try go_bits); (try rw [if_pos (by omega)]); (try with_reducible rfl)
          (try simp only [Act.put, List.setIfInBounds_toArray, List.set_cons_succ, List.set_cons_zero])
          refine wpE_take (i := 13) (oi := { dst := some 91, op := Go.Op.move (Go.Operand.tmp 15), type := 3, pos := "law.go:216", after := #[], guard := none }) (v := ?_) rfl (by kernel_rfl) (fun _ _ _ h => h) (Or.inl ⟨by rfl, fun W hW => ?_⟩) hS ?_
          rotate_left
          · obtain ⟨hw1, hw2, hw3, hw4⟩ := hW; go_simp; (try go_bits); (try rw [if_pos (by omega)]); (try with_reducible rfl)
          (try simp only [Act.put, List.setIfInBounds_toArray, List.set_cons_succ, List.set_cons_zero])
          refine wpE_take (i := 14) (oi := { dst := some 92, op := Go.Op.indexAddr 49 (Go.Operand.tmp 90) (Go.Operand.tmp 91), type := 0, pos := "law.go:216", after := #[{ on := 12, ground := Go.Ground.data }, { on := 13, ground := Go.Ground.data }], guard := none }) (v := ?_) rfl (by kernel_rfl) (fun _ _ _ h => h) (Or.inl ⟨by rfl, fun W hW => ?_⟩) hS ?_
          rotate_left
          · obtain ⟨hw1, hw2, hw3, hw4⟩ := hW; go_simp; (try go_bits); (try rw [if_pos (by omega)]); (try with_reducible rfl)
          (try simp only [Act.put, List.setIfInBounds_toArray, List.set_cons_succ, List.set_cons_zero])
          refine wpE_take (i := 15) (oi := { dst := some 93, op := Go.Op.fieldAddr 54 (Go.Operand.tmp 92) 5, type := 0, pos := "law.go:216", after := #[{ on := 14, ground := Go.Ground.data }], guard := none }) (v := ?_) rfl (by kernel_rfl) (fun _ _ _ h => h) (Or.inl ⟨by rfl, fun W hW => ?_⟩) hS ?_
          rotate_left
          · obtain ⟨hw1, hw2, hw3, hw4⟩ := hW; go_simp; (try go_bits); (try rw [if_pos (by omega)]); (try with_reducible rfl)
          (try simp only [Act.put, List.setIfInBounds_toArray, List.set_cons_succ, List.set_cons_zero])
          refine wpE_take (i := 16) (oi := { dst := some 94, op := Go.Op.load 4 (Go.Operand.tmp 93), type := 4, pos := "law.go:216", after := #[{ on := 15, ground := Go.Ground.data }], guard := none }) (v := ?_) rfl (by kernel_rfl) (fun _ _ _ h => h) (Or.inl ⟨by rfl, fun W hW => ?_⟩) hS ?_
          rotate_left
          · obtain ⟨hw1, hw2, hw3, hw4⟩ := hW; go_simp; (try go_bits); (try rw [if_pos (by omega)]); (try with_reducible rfl)
          (try simp only [Act.put, List.setIfInBounds_toArray, List.set_cons_succ, List.set_cons_zero])
          refine wpE_last (oi := { dst := some 95, op := Go.Op.call { callee := Go.Callee.value (Go.Operand.func 19), args := #[Go.Operand.tmp 79, Go.Operand.const (Go.Value.int Go.IntKind.i64 1), Go.Operand.tmp 84, Go.Operand.tmp 89, Go.Operand.tmp 94], argTypes := #[24, 3, 22, 3, 4] }, type := 51, pos := "law.go:216", after := #[{ on := 1, ground := Go.Ground.data }, { on := 6, ground := Go.Ground.data }, { on := 11, ground := Go.Ground.data }, { on := 16, ground := Go.Ground.data }], guard := none }) rfl (by kernel_rfl) (by kernel_rfl) (by rfl) (fun K hK => ?_)
          go_simp; refine HB.out.mono ?_; rintro e w7 ⟨rfl, h7⟩
          have H7 := Lib.hid h7
          clear h7 HB
          refine hK _ _ ?_; clear hK K
          go_wp2
          go_meet
          exact H7
        · have hmt : decide ((j : Int) < (M2.length : Int)) = false := by simp; omega
          go_wp2
          go_meet
          exact ⟨_, HI.out⟩
      case rest =>
        obtain ⟨own7, hI⟩ := hcut.out
        obtain ⟨hget, hob⟩ := HX.out
        obtain ⟨g, o, rfl, hg, c0, c1, c2, c3, c4, c5, c6, c7⟩ := (HL2.out.1.upd hI.upd).cells hget
        obtain ⟨xk, xd, xs, xa, xv, xw, xg, xq⟩ := x
        simp only [] at c2 c3 c5
        obtain ⟨T, hT⟩ : ∃ T, accTT 8 M0 (usT RT) 0 xa xs xw = T := ⟨_, rfl⟩
        have hT2 : accTT 8 M0 (usT RT2) 0 xa xs xw = T := by rw [← hT]; exact (accTT_congr0 0 H00.out xa xs xw).symm
        have hA := hI.drew.goA 0 xa hob.a xs hob.s xw
        rw [hT] at hA
        have HA := Lib.hid hA
        have HOB := Lib.hid (And.intro hob hT2)
        have HG := Lib.hid hget
        obtain ⟨x0, xl, x1, xl'⟩ := hI.cells
        obtain ⟨PA, KD⟩ := T
        simp only [] at HA
        obtain ⟨bb, hbb⟩ : ∃ bb, (KD == 0) = bb := ⟨_, rfl⟩
        rw [hbb] at HA
        clear c0 c1 c4 c6 c7 hob hget hg hI HI HX hA hT hT2 hcut
        go_wp2_with fail
        refine wpE_region (S := fun (W' : World) => W'.cell? ⟨xo, 0, none⟩ = some (.pointer (some ⟨p, 0, none⟩)) ∧ W'.cell? ⟨g, o + j * 8 + 2, none⟩ = some (.int .i64 xs) ∧ W'.cell? ⟨g, o + j * 8 + 3, none⟩ = some (.int .u64 (xa : Int)) ∧ W'.cell? ⟨g, o + j * 8 + 5, none⟩ = some (.bool xw)) (s := 22) (by kernel_rfl) ?_
        have hS : (fun (W' : World) => W'.cell? ⟨xo, 0, none⟩ = some (.pointer (some ⟨p, 0, none⟩)) ∧ W'.cell? ⟨g, o + j * 8 + 2, none⟩ = some (.int .i64 xs) ∧ W'.cell? ⟨g, o + j * 8 + 3, none⟩ = some (.int .u64 (xa : Int)) ∧ W'.cell? ⟨g, o + j * 8 + 5, none⟩ = some (.bool xw)) _ := ⟨x0, c2, c3, c5⟩
        refine wpE_take (i := 0) (oi := { dst := some 97, op := Go.Op.fieldAddr 31 (Go.Operand.tmp 11) 0, type := 0, pos := "law.go:218", after := #[], guard := none }) (v := ?_) rfl (by kernel_rfl) (fun _ _ _ h => h) (Or.inl ⟨by rfl, fun W hW => ?_⟩) hS ?_
        rotate_left
        · obtain ⟨hw1, hw2, hw3, hw4⟩ := hW; go_simp; (try go_bits); (try rw [if_pos (by omega)]); (try with_reducible rfl)
        (try simp only [Act.put, List.setIfInBounds_toArray, List.set_cons_succ, List.set_cons_zero])
        refine wpE_take (i := 1) (oi := { dst := some 98, op := Go.Op.load 24 (Go.Operand.tmp 97), type := 24, pos := "law.go:218", after := #[{ on := 0, ground := Go.Ground.data }], guard := none }) (v := ?_) rfl (by kernel_rfl) (fun _ _ _ h => h) (Or.inl ⟨by rfl, fun W hW => ?_⟩) hS ?_
        rotate_left
        · obtain ⟨hw1, hw2, hw3, hw4⟩ := hW; go_simp; (try go_bits); (try rw [if_pos (by omega)]); (try with_reducible rfl)
        (try simp only [Act.put, List.setIfInBounds_toArray, List.set_cons_succ, List.set_cons_zero])
        refine wpE_take (i := 2) (oi := { dst := some 99, op := Go.Op.move (Go.Operand.tmp 3), type := 49, pos := "law.go:218", after := #[], guard := none }) (v := ?_) rfl (by kernel_rfl) (fun _ _ _ h => h) (Or.inl ⟨by rfl, fun W hW => ?_⟩) hS ?_
        rotate_left
        · obtain ⟨hw1, hw2, hw3, hw4⟩ := hW; go_simp; (try go_bits); (try rw [if_pos (by omega)]); (try with_reducible rfl)
        (try simp only [Act.put, List.setIfInBounds_toArray, List.set_cons_succ, List.set_cons_zero])
        refine wpE_take (i := 3) (oi := { dst := some 100, op := Go.Op.move (Go.Operand.tmp 15), type := 3, pos := "law.go:218", after := #[], guard := none }) (v := ?_) rfl (by kernel_rfl) (fun _ _ _ h => h) (Or.inl ⟨by rfl, fun W hW => ?_⟩) hS ?_
        rotate_left
        · obtain ⟨hw1, hw2, hw3, hw4⟩ := hW; go_simp; (try go_bits); (try rw [if_pos (by omega)]); (try with_reducible rfl)
        (try simp only [Act.put, List.setIfInBounds_toArray, List.set_cons_succ, List.set_cons_zero])
        refine wpE_take (i := 4) (oi := { dst := some 101, op := Go.Op.indexAddr 49 (Go.Operand.tmp 99) (Go.Operand.tmp 100), type := 0, pos := "law.go:218", after := #[{ on := 2, ground := Go.Ground.data }, { on := 3, ground := Go.Ground.data }], guard := none }) (v := ?_) rfl (by kernel_rfl) (fun _ _ _ h => h) (Or.inl ⟨by rfl, fun W hW => ?_⟩) hS ?_
        rotate_left
        · obtain ⟨hw1, hw2, hw3, hw4⟩ := hW; go_simp; (try go_bits); (try rw [if_pos (by omega)]); (try with_reducible rfl)
        (try simp only [Act.put, List.setIfInBounds_toArray, List.set_cons_succ, List.set_cons_zero])
        refine wpE_take (i := 5) (oi := { dst := some 102, op := Go.Op.fieldAddr 54 (Go.Operand.tmp 101) 3, type := 0, pos := "law.go:218", after := #[{ on := 4, ground := Go.Ground.data }], guard := none }) (v := ?_) rfl (by kernel_rfl) (fun _ _ _ h => h) (Or.inl ⟨by rfl, fun W hW => ?_⟩) hS ?_
        rotate_left
        · obtain ⟨hw1, hw2, hw3, hw4⟩ := hW; go_simp; (try go_bits); (try rw [if_pos (by omega)]); (try with_reducible rfl)
        (try simp only [Act.put, List.setIfInBounds_toArray, List.set_cons_succ, List.set_cons_zero])
        refine wpE_take (i := 6) (oi := { dst := some 103, op := Go.Op.load 22 (Go.Operand.tmp 102), type := 22, pos := "law.go:218", after := #[{ on := 5, ground := Go.Ground.data }], guard := none }) (v := ?_) rfl (by kernel_rfl) (fun _ _ _ h => h) (Or.inl ⟨by rfl, fun W hW => ?_⟩) hS ?_
        rotate_left
        · obtain ⟨hw1, hw2, hw3, hw4⟩ := hW; go_simp; (try go_bits); (try rw [if_pos (by omega)]); (try with_reducible rfl)
        (try simp only [Act.put, List.setIfInBounds_toArray, List.set_cons_succ, List.set_cons_zero])
        refine wpE_take (i := 7) (oi := { dst := some 104, op := Go.Op.move (Go.Operand.tmp 3), type := 49, pos := "law.go:218", after := #[], guard := none }) (v := ?_) rfl (by kernel_rfl) (fun _ _ _ h => h) (Or.inl ⟨by rfl, fun W hW => ?_⟩) hS ?_
        rotate_left
        · obtain ⟨hw1, hw2, hw3, hw4⟩ := hW; go_simp; (try go_bits); (try rw [if_pos (by omega)]); (try with_reducible rfl)
        (try simp only [Act.put, List.setIfInBounds_toArray, List.set_cons_succ, List.set_cons_zero])
        refine wpE_take (i := 8) (oi := { dst := some 105, op := Go.Op.move (Go.Operand.tmp 15), type := 3, pos := "law.go:218", after := #[], guard := none }) (v := ?_) rfl (by kernel_rfl) (fun _ _ _ h => h) (Or.inl ⟨by rfl, fun W hW => ?_⟩) hS ?_
        rotate_left
        · obtain ⟨hw1, hw2, hw3, hw4⟩ := hW; go_simp; (try go_bits); (try rw [if_pos (by omega)]); (try with_reducible rfl)
        (try simp only [Act.put, List.setIfInBounds_toArray, List.set_cons_succ, List.set_cons_zero])
        refine wpE_take (i := 9) (oi := { dst := some 106, op := Go.Op.indexAddr 49 (Go.Operand.tmp 104) (Go.Operand.tmp 105), type := 0, pos := "law.go:218", after := #[{ on := 7, ground := Go.Ground.data }, { on := 8, ground := Go.Ground.data }], guard := none }) (v := ?_) rfl (by kernel_rfl) (fun _ _ _ h => h) (Or.inl ⟨by rfl, fun W hW => ?_⟩) hS ?_
        rotate_left
        · obtain ⟨hw1, hw2, hw3, hw4⟩ := hW; go_simp; (try go_bits); (try rw [if_pos (by omega)]); (try with_reducible rfl)
        (try simp only [Act.put, List.setIfInBounds_toArray, List.set_cons_succ, List.set_cons_zero])
        refine wpE_take (i := 10) (oi := { dst := some 107, op := Go.Op.fieldAddr 54 (Go.Operand.tmp 106) 2, type := 0, pos := "law.go:218", after := #[{ on := 9, ground := Go.Ground.data }], guard := none }) (v := ?_) rfl (by kernel_rfl) (fun _ _ _ h => h) (Or.inl ⟨by rfl, fun W hW => ?_⟩) hS ?_
        rotate_left
        · obtain ⟨hw1, hw2, hw3, hw4⟩ := hW; go_simp; (try go_bits); (try rw [if_pos (by omega)]); (try with_reducible rfl)
        (try simp only [Act.put, List.setIfInBounds_toArray, List.set_cons_succ, List.set_cons_zero])
        refine wpE_take (i := 11) (oi := { dst := some 108, op := Go.Op.load 3 (Go.Operand.tmp 107), type := 3, pos := "law.go:218", after := #[{ on := 10, ground := Go.Ground.data }], guard := none }) (v := ?_) rfl (by kernel_rfl) (fun _ _ _ h => h) (Or.inl ⟨by rfl, fun W hW => ?_⟩) hS ?_
        rotate_left
        · obtain ⟨hw1, hw2, hw3, hw4⟩ := hW; go_simp; (try go_bits); (try rw [if_pos (by omega)]); (try with_reducible rfl)
        (try simp only [Act.put, List.setIfInBounds_toArray, List.set_cons_succ, List.set_cons_zero])
        refine wpE_take (i := 12) (oi := { dst := some 109, op := Go.Op.move (Go.Operand.tmp 3), type := 49, pos := "law.go:218", after := #[], guard := none }) (v := ?_) rfl (by kernel_rfl) (fun _ _ _ h => h) (Or.inl ⟨by rfl, fun W hW => ?_⟩) hS ?_
        rotate_left
        · obtain ⟨hw1, hw2, hw3, hw4⟩ := hW; go_simp; (try go_bits); (try rw [if_pos (by omega)]); (try with_reducible rfl)
        (try simp only [Act.put, List.setIfInBounds_toArray, List.set_cons_succ, List.set_cons_zero])
        refine wpE_take (i := 13) (oi := { dst := some 110, op := Go.Op.move (Go.Operand.tmp 15), type := 3, pos := "law.go:218", after := #[], guard := none }) (v := ?_) rfl (by kernel_rfl) (fun _ _ _ h => h) (Or.inl ⟨by rfl, fun W hW => ?_⟩) hS ?_
        rotate_left
        · obtain ⟨hw1, hw2, hw3, hw4⟩ := hW; go_simp; (try go_bits); (try rw [if_pos (by omega)]); (try with_reducible rfl)
        (try simp only [Act.put, List.setIfInBounds_toArray, List.set_cons_succ, List.set_cons_zero])
        refine wpE_take (i := 14) (oi := { dst := some 111, op := Go.Op.indexAddr 49 (Go.Operand.tmp 109) (Go.Operand.tmp 110), type := 0, pos := "law.go:218", after := #[{ on := 12, ground := Go.Ground.data }, { on := 13, ground := Go.Ground.data }], guard := none }) (v := ?_) rfl (by kernel_rfl) (fun _ _ _ h => h) (Or.inl ⟨by rfl, fun W hW => ?_⟩) hS ?_
        rotate_left
        · obtain ⟨hw1, hw2, hw3, hw4⟩ := hW; go_simp; (try go_bits); (try rw [if_pos (by omega)]); (try with_reducible rfl)
        (try simp only [Act.put, List.setIfInBounds_toArray, List.set_cons_succ, List.set_cons_zero])
        refine wpE_take (i := 15) (oi := { dst := some 112, op := Go.Op.fieldAddr 54 (Go.Operand.tmp 111) 5, type := 0, pos := "law.go:218", after := #[{ on := 14, ground := Go.Ground.data }], guard := none }) (v := ?_) rfl (by kernel_rfl) (fun _ _ _ h => h) (Or.inl ⟨by rfl, fun W hW => ?_⟩) hS ?_
        rotate_left
        · obtain ⟨hw1, hw2, hw3, hw4⟩ := hW; go_simp; (try go_bits); (try rw [if_pos (by omega)]); (try with_reducible rfl)
        (try simp only [Act.put, List.setIfInBounds_toArray, List.set_cons_succ, List.set_cons_zero])
        refine wpE_take (i := 16) (oi := { dst := some 113, op := Go.Op.load 4 (Go.Operand.tmp 112), type := 4, pos := "law.go:218", after := #[{ on := 15, ground := Go.Ground.data }], guard := none }) (v := ?_) rfl (by kernel_rfl) (fun _ _ _ h => h) (Or.inl ⟨by rfl, fun W hW => ?_⟩) hS ?_
        rotate_left
        · obtain ⟨hw1, hw2, hw3, hw4⟩ := hW; go_simp; (try go_bits); (try rw [if_pos (by omega)]); (try with_reducible rfl)
        (try simp only [Act.put, List.setIfInBounds_toArray, List.set_cons_succ, List.set_cons_zero])
        refine wpE_only (i := 17) (oi := { dst := some 114, op := Go.Op.call { callee := Go.Callee.value (Go.Operand.func 19), args := #[Go.Operand.tmp 98, Go.Operand.const (Go.Value.int Go.IntKind.i64 0), Go.Operand.tmp 103, Go.Operand.tmp 108, Go.Operand.tmp 113], argTypes := #[24, 3, 22, 3, 4] }, type := 51, pos := "law.go:218", after := #[{ on := 1, ground := Go.Ground.data }, { on := 6, ground := Go.Ground.data }, { on := 11, ground := Go.Ground.data }, { on := 16, ground := Go.Ground.data }], guard := none }) rfl (by kernel_rfl) (by rfl) (fun K hK => ?_)
        go_simp; refine HA.out.mono ?_; rintro e w7 ⟨rfl, own8, hI⟩
        obtain ⟨g', o', he, hg', e0, e1, e2, e3, e4, e5, e6, e7⟩ := (HL2.out.1.upd hI.upd).cells HG.out
        obtain ⟨rfl, rfl⟩ : g = g' ∧ o = o' := by cases he; exact ⟨rfl, rfl⟩
        simp only [] at e2 e3 e5
        obtain ⟨y0, yl, y1, yl'⟩ := hI.cells
        have hB := hI.drew.goB 0 xa HOB.out.1.a xs HOB.out.1.s xw
        rw [HOB.out.2] at hB
        simp only [] at hB
        rw [hbb] at hB
        have HB := Lib.hid hB
        clear hI hB he hg' e0 e1 e4 e6 e7 HA
        have hS := And.intro y0 (And.intro e2 (And.intro e3 e5))
        refine hK _ _ hS ?_; clear hK K
        (try simp only [Act.put, List.setIfInBounds_toArray, List.set_cons_succ, List.set_cons_zero])
        refine wpE_take (i := 18) (oi := { dst := some 96, op := Go.Op.move (Go.Operand.tmp 114), type := 51, pos := "law.go:218", after := #[{ on := 17, ground := Go.Ground.data }], guard := none }) (v := ?_) rfl (by kernel_rfl) (fun _ _ _ h => h) (Or.inl ⟨by rfl, fun W hW => ?_⟩) hS ?_
        rotate_left
        · obtain ⟨hw1, hw2, hw3, hw4⟩ := hW; go_simp; (try go_bits); (try rw [if_pos (by omega)]); (try with_reducible rfl)
        (try simp only [Act.put, List.setIfInBounds_toArray, List.set_cons_succ, List.set_cons_zero])
        refine wpE_take (i := 19) (oi := { dst := some 115, op := Go.Op.extract (Go.Operand.tmp 96) 0, type := 22, pos := "law.go:218", after := #[{ on := 18, ground := Go.Ground.data }], guard := none }) (v := ?_) rfl (by kernel_rfl) (fun _ _ _ h => h) (Or.inl ⟨by rfl, fun W hW => ?_⟩) hS ?_
        rotate_left
        · obtain ⟨hw1, hw2, hw3, hw4⟩ := hW; go_simp; (try go_bits); (try rw [if_pos (by omega)]); (try with_reducible rfl)
        (try simp only [Act.put, List.setIfInBounds_toArray, List.set_cons_succ, List.set_cons_zero])
        refine wpE_take (i := 20) (oi := { dst := some 116, op := Go.Op.extract (Go.Operand.tmp 96) 1, type := 4, pos := "law.go:218", after := #[{ on := 18, ground := Go.Ground.data }, { on := 21, ground := Go.Ground.gcOnly Go.Departure.lateStores }], guard := none }) (v := ?_) rfl (by kernel_rfl) (fun _ _ _ h => h) (Or.inl ⟨by rfl, fun W hW => ?_⟩) hS ?_
        rotate_left
        · obtain ⟨hw1, hw2, hw3, hw4⟩ := hW; go_simp; (try go_bits); (try rw [if_pos (by omega)]); (try with_reducible rfl)
        (try simp only [Act.put, List.setIfInBounds_toArray, List.set_cons_succ, List.set_cons_zero])
        refine wpE_only (i := 21) (oi := { dst := some 16, op := Go.Op.assign (Go.Operand.tmp 115), type := 22, pos := "law.go:218", after := #[{ on := 19, ground := Go.Ground.data }, { on := 17, ground := Go.Ground.chain }, { on := 0, ground := Go.Ground.phase }, { on := 1, ground := Go.Ground.phase }, { on := 2, ground := Go.Ground.phase }, { on := 3, ground := Go.Ground.phase }, { on := 4, ground := Go.Ground.phase }, { on := 5, ground := Go.Ground.phase }, { on := 6, ground := Go.Ground.phase }, { on := 7, ground := Go.Ground.phase }, { on := 8, ground := Go.Ground.phase }, { on := 9, ground := Go.Ground.phase }, { on := 10, ground := Go.Ground.phase }, { on := 11, ground := Go.Ground.phase }, { on := 12, ground := Go.Ground.phase }, { on := 13, ground := Go.Ground.phase }, { on := 14, ground := Go.Ground.phase }, { on := 15, ground := Go.Ground.phase }, { on := 16, ground := Go.Ground.phase }, { on := 17, ground := Go.Ground.phase }, { on := 18, ground := Go.Ground.phase }, { on := 19, ground := Go.Ground.phase }, { on := 20, ground := Go.Ground.textOnly Go.Departure.lateStores }], guard := none }) rfl (by kernel_rfl) (by rfl) (fun K hK => ?_)
        go_simp; (try go_bits); refine hK _ _ hS ?_; clear hK K
        (try simp only [Act.put, List.setIfInBounds_toArray, List.set_cons_succ, List.set_cons_zero])
        refine wpE_last (oi := { dst := some 17, op := Go.Op.assign (Go.Operand.tmp 116), type := 4, pos := "law.go:218", after := #[{ on := 20, ground := Go.Ground.data }, { on := 21, ground := Go.Ground.chain }, { on := 0, ground := Go.Ground.phase }, { on := 1, ground := Go.Ground.phase }, { on := 2, ground := Go.Ground.phase }, { on := 3, ground := Go.Ground.phase }, { on := 4, ground := Go.Ground.phase }, { on := 5, ground := Go.Ground.phase }, { on := 6, ground := Go.Ground.phase }, { on := 7, ground := Go.Ground.phase }, { on := 8, ground := Go.Ground.phase }, { on := 9, ground := Go.Ground.phase }, { on := 10, ground := Go.Ground.phase }, { on := 11, ground := Go.Ground.phase }, { on := 12, ground := Go.Ground.phase }, { on := 13, ground := Go.Ground.phase }, { on := 14, ground := Go.Ground.phase }, { on := 15, ground := Go.Ground.phase }, { on := 16, ground := Go.Ground.phase }, { on := 17, ground := Go.Ground.phase }, { on := 18, ground := Go.Ground.phase }, { on := 19, ground := Go.Ground.phase }, { on := 20, ground := Go.Ground.phase }, { on := 21, ground := Go.Ground.phase }], guard := none }) rfl (by kernel_rfl) (by kernel_rfl) (by rfl) (fun K hK => ?_)
        go_simp; (try go_bits); refine hK _ _ ?_; clear hK K
        clear hS x0 xl x1 xl'
        go_wp2_with fail
        refine wpE_region (S := fun (W' : World) => W'.cell? ⟨xo', 0, none⟩ = some (.pointer (some ⟨p', 0, none⟩)) ∧ W'.cell? ⟨g, o + j * 8 + 2, none⟩ = some (.int .i64 xs) ∧ W'.cell? ⟨g, o + j * 8 + 3, none⟩ = some (.int .u64 (xa : Int)) ∧ W'.cell? ⟨g, o + j * 8 + 5, none⟩ = some (.bool xw)) (s := 22) (by kernel_rfl) ?_
        have hS : (fun (W' : World) => W'.cell? ⟨xo', 0, none⟩ = some (.pointer (some ⟨p', 0, none⟩)) ∧ W'.cell? ⟨g, o + j * 8 + 2, none⟩ = some (.int .i64 xs) ∧ W'.cell? ⟨g, o + j * 8 + 3, none⟩ = some (.int .u64 (xa : Int)) ∧ W'.cell? ⟨g, o + j * 8 + 5, none⟩ = some (.bool xw)) _ := ⟨y1, e2, e3, e5⟩
        refine wpE_take (i := 0) (oi := { dst := some 118, op := Go.Op.fieldAddr 31 (Go.Operand.tmp 13) 0, type := 0, pos := "law.go:219", after := #[], guard := none }) (v := ?_) rfl (by kernel_rfl) (fun _ _ _ h => h) (Or.inl ⟨by rfl, fun W hW => ?_⟩) hS ?_
        rotate_left
        · obtain ⟨hw1, hw2, hw3, hw4⟩ := hW; go_simp; (try go_bits); (try rw [if_pos (by omega)]); (try with_reducible rfl)
        (try simp only [Act.put, List.setIfInBounds_toArray, List.set_cons_succ, List.set_cons_zero])
        refine wpE_take (i := 1) (oi := { dst := some 119, op := Go.Op.load 24 (Go.Operand.tmp 118), type := 24, pos := "law.go:219", after := #[{ on := 0, ground := Go.Ground.data }], guard := none }) (v := ?_) rfl (by kernel_rfl) (fun _ _ _ h => h) (Or.inl ⟨by rfl, fun W hW => ?_⟩) hS ?_
        rotate_left
        · obtain ⟨hw1, hw2, hw3, hw4⟩ := hW; go_simp; (try go_bits); (try rw [if_pos (by omega)]); (try with_reducible rfl)
        (try simp only [Act.put, List.setIfInBounds_toArray, List.set_cons_succ, List.set_cons_zero])
        refine wpE_take (i := 2) (oi := { dst := some 120, op := Go.Op.move (Go.Operand.tmp 3), type := 49, pos := "law.go:219", after := #[], guard := none }) (v := ?_) rfl (by kernel_rfl) (fun _ _ _ h => h) (Or.inl ⟨by rfl, fun W hW => ?_⟩) hS ?_
        rotate_left
        · obtain ⟨hw1, hw2, hw3, hw4⟩ := hW; go_simp; (try go_bits); (try rw [if_pos (by omega)]); (try with_reducible rfl)
        (try simp only [Act.put, List.setIfInBounds_toArray, List.set_cons_succ, List.set_cons_zero])
        refine wpE_take (i := 3) (oi := { dst := some 121, op := Go.Op.move (Go.Operand.tmp 15), type := 3, pos := "law.go:219", after := #[], guard := none }) (v := ?_) rfl (by kernel_rfl) (fun _ _ _ h => h) (Or.inl ⟨by rfl, fun W hW => ?_⟩) hS ?_
        rotate_left
        · obtain ⟨hw1, hw2, hw3, hw4⟩ := hW; go_simp; (try go_bits); (try rw [if_pos (by omega)]); (try with_reducible rfl)
        (try simp only [Act.put, List.setIfInBounds_toArray, List.set_cons_succ, List.set_cons_zero])
        refine wpE_take (i := 4) (oi := { dst := some 122, op := Go.Op.indexAddr 49 (Go.Operand.tmp 120) (Go.Operand.tmp 121), type := 0, pos := "law.go:219", after := #[{ on := 2, ground := Go.Ground.data }, { on := 3, ground := Go.Ground.data }], guard := none }) (v := ?_) rfl (by kernel_rfl) (fun _ _ _ h => h) (Or.inl ⟨by rfl, fun W hW => ?_⟩) hS ?_
        rotate_left
        · obtain ⟨hw1, hw2, hw3, hw4⟩ := hW; go_simp; (try go_bits); (try rw [if_pos (by omega)]); (try with_reducible rfl)
        (try simp only [Act.put, List.setIfInBounds_toArray, List.set_cons_succ, List.set_cons_zero])
        refine wpE_take (i := 5) (oi := { dst := some 123, op := Go.Op.fieldAddr 54 (Go.Operand.tmp 122) 3, type := 0, pos := "law.go:219", after := #[{ on := 4, ground := Go.Ground.data }], guard := none }) (v := ?_) rfl (by kernel_rfl) (fun _ _ _ h => h) (Or.inl ⟨by rfl, fun W hW => ?_⟩) hS ?_
        rotate_left
        · obtain ⟨hw1, hw2, hw3, hw4⟩ := hW; go_simp; (try go_bits); (try rw [if_pos (by omega)]); (try with_reducible rfl)
        (try simp only [Act.put, List.setIfInBounds_toArray, List.set_cons_succ, List.set_cons_zero])
        refine wpE_take (i := 6) (oi := { dst := some 124, op := Go.Op.load 22 (Go.Operand.tmp 123), type := 22, pos := "law.go:219", after := #[{ on := 5, ground := Go.Ground.data }], guard := none }) (v := ?_) rfl (by kernel_rfl) (fun _ _ _ h => h) (Or.inl ⟨by rfl, fun W hW => ?_⟩) hS ?_
        rotate_left
        · obtain ⟨hw1, hw2, hw3, hw4⟩ := hW; go_simp; (try go_bits); (try rw [if_pos (by omega)]); (try with_reducible rfl)
        (try simp only [Act.put, List.setIfInBounds_toArray, List.set_cons_succ, List.set_cons_zero])
        refine wpE_take (i := 7) (oi := { dst := some 125, op := Go.Op.move (Go.Operand.tmp 3), type := 49, pos := "law.go:219", after := #[], guard := none }) (v := ?_) rfl (by kernel_rfl) (fun _ _ _ h => h) (Or.inl ⟨by rfl, fun W hW => ?_⟩) hS ?_
        rotate_left
        · obtain ⟨hw1, hw2, hw3, hw4⟩ := hW; go_simp; (try go_bits); (try rw [if_pos (by omega)]); (try with_reducible rfl)
        (try simp only [Act.put, List.setIfInBounds_toArray, List.set_cons_succ, List.set_cons_zero])
        refine wpE_take (i := 8) (oi := { dst := some 126, op := Go.Op.move (Go.Operand.tmp 15), type := 3, pos := "law.go:219", after := #[], guard := none }) (v := ?_) rfl (by kernel_rfl) (fun _ _ _ h => h) (Or.inl ⟨by rfl, fun W hW => ?_⟩) hS ?_
        rotate_left
        · obtain ⟨hw1, hw2, hw3, hw4⟩ := hW; go_simp; (try go_bits); (try rw [if_pos (by omega)]); (try with_reducible rfl)
        (try simp only [Act.put, List.setIfInBounds_toArray, List.set_cons_succ, List.set_cons_zero])
        refine wpE_take (i := 9) (oi := { dst := some 127, op := Go.Op.indexAddr 49 (Go.Operand.tmp 125) (Go.Operand.tmp 126), type := 0, pos := "law.go:219", after := #[{ on := 7, ground := Go.Ground.data }, { on := 8, ground := Go.Ground.data }], guard := none }) (v := ?_) rfl (by kernel_rfl) (fun _ _ _ h => h) (Or.inl ⟨by rfl, fun W hW => ?_⟩) hS ?_
        rotate_left
        · obtain ⟨hw1, hw2, hw3, hw4⟩ := hW; go_simp; (try go_bits); (try rw [if_pos (by omega)]); (try with_reducible rfl)
        (try simp only [Act.put, List.setIfInBounds_toArray, List.set_cons_succ, List.set_cons_zero])
        refine wpE_take (i := 10) (oi := { dst := some 128, op := Go.Op.fieldAddr 54 (Go.Operand.tmp 127) 2, type := 0, pos := "law.go:219", after := #[{ on := 9, ground := Go.Ground.data }], guard := none }) (v := ?_) rfl (by kernel_rfl) (fun _ _ _ h => h) (Or.inl ⟨by rfl, fun W hW => ?_⟩) hS ?_
        rotate_left
        · obtain ⟨hw1, hw2, hw3, hw4⟩ := hW; go_simp; (try go_bits); (try rw [if_pos (by omega)]); (try with_reducible rfl)
        (try simp only [Act.put, List.setIfInBounds_toArray, List.set_cons_succ, List.set_cons_zero])
        refine wpE_take (i := 11) (oi := { dst := some 129, op := Go.Op.load 3 (Go.Operand.tmp 128), type := 3, pos := "law.go:219", after := #[{ on := 10, ground := Go.Ground.data }], guard := none }) (v := ?_) rfl (by kernel_rfl) (fun _ _ _ h => h) (Or.inl ⟨by rfl, fun W hW => ?_⟩) hS ?_
        rotate_left
        · obtain ⟨hw1, hw2, hw3, hw4⟩ := hW; go_simp; (try go_bits); (try rw [if_pos (by omega)]); (try with_reducible rfl)
        (try simp only [Act.put, List.setIfInBounds_toArray, List.set_cons_succ, List.set_cons_zero])
        refine wpE_take (i := 12) (oi := { dst := some 130, op := Go.Op.move (Go.Operand.tmp 3), type := 49, pos := "law.go:219", after := #[], guard := none }) (v := ?_) rfl (by kernel_rfl) (fun _ _ _ h => h) (Or.inl ⟨by rfl, fun W hW => ?_⟩) hS ?_
        rotate_left
        · obtain ⟨hw1, hw2, hw3, hw4⟩ := hW; go_simp; (try go_bits); (try rw [if_pos (by omega)]); (try with_reducible rfl)
        (try simp only [Act.put, List.setIfInBounds_toArray, List.set_cons_succ, List.set_cons_zero])
        refine wpE_take (i := 13) (oi := { dst := some 131, op := Go.Op.move (Go.Operand.tmp 15), type := 3, pos := "law.go:219", after := #[], guard := none }) (v := ?_) rfl (by kernel_rfl) (fun _ _ _ h => h) (Or.inl ⟨by rfl, fun W hW => ?_⟩) hS ?_
        rotate_left
        · obtain ⟨hw1, hw2, hw3, hw4⟩ := hW; go_simp; (try go_bits); (try rw [if_pos (by omega)]); (try with_reducible rfl)
        (try simp only [Act.put, List.setIfInBounds_toArray, List.set_cons_succ, List.set_cons_zero])
        refine wpE_take (i := 14) (oi := { dst := some 132, op := Go.Op.indexAddr 49 (Go.Operand.tmp 130) (Go.Operand.tmp 131), type := 0, pos := "law.go:219", after := #[{ on := 12, ground := Go.Ground.data }, { on := 13, ground := Go.Ground.data }], guard := none }) (v := ?_) rfl (by kernel_rfl) (fun _ _ _ h => h) (Or.inl ⟨by rfl, fun W hW => ?_⟩) hS ?_
        rotate_left
        · obtain ⟨hw1, hw2, hw3, hw4⟩ := hW; go_simp; (try go_bits); (try rw [if_pos (by omega)]); (try with_reducible rfl)
        (try simp only [Act.put, List.setIfInBounds_toArray, List.set_cons_succ, List.set_cons_zero])
        refine wpE_take (i := 15) (oi := { dst := some 133, op := Go.Op.fieldAddr 54 (Go.Operand.tmp 132) 5, type := 0, pos := "law.go:219", after := #[{ on := 14, ground := Go.Ground.data }], guard := none }) (v := ?_) rfl (by kernel_rfl) (fun _ _ _ h => h) (Or.inl ⟨by rfl, fun W hW => ?_⟩) hS ?_
        rotate_left
        · obtain ⟨hw1, hw2, hw3, hw4⟩ := hW; go_simp; (try go_bits); (try rw [if_pos (by omega)]); (try with_reducible rfl)
        (try simp only [Act.put, List.setIfInBounds_toArray, List.set_cons_succ, List.set_cons_zero])
        refine wpE_take (i := 16) (oi := { dst := some 134, op := Go.Op.load 4 (Go.Operand.tmp 133), type := 4, pos := "law.go:219", after := #[{ on := 15, ground := Go.Ground.data }], guard := none }) (v := ?_) rfl (by kernel_rfl) (fun _ _ _ h => h) (Or.inl ⟨by rfl, fun W hW => ?_⟩) hS ?_
        rotate_left
        · obtain ⟨hw1, hw2, hw3, hw4⟩ := hW; go_simp; (try go_bits); (try rw [if_pos (by omega)]); (try with_reducible rfl)
        (try simp only [Act.put, List.setIfInBounds_toArray, List.set_cons_succ, List.set_cons_zero])
        refine wpE_only (i := 17) (oi := { dst := some 135, op := Go.Op.call { callee := Go.Callee.value (Go.Operand.func 19), args := #[Go.Operand.tmp 119, Go.Operand.const (Go.Value.int Go.IntKind.i64 0), Go.Operand.tmp 124, Go.Operand.tmp 129, Go.Operand.tmp 134], argTypes := #[24, 3, 22, 3, 4] }, type := 51, pos := "law.go:219", after := #[{ on := 1, ground := Go.Ground.data }, { on := 6, ground := Go.Ground.data }, { on := 11, ground := Go.Ground.data }, { on := 16, ground := Go.Ground.data }], guard := none }) rfl (by kernel_rfl) (by rfl) (fun K hK => ?_)
        go_simp; refine HB.out.mono ?_; rintro e w9 ⟨rfl, own9, hI⟩
        obtain ⟨g', o', he, hg', f0, f1, f2, f3, f4, f5, f6, f7⟩ := (HL2.out.1.upd hI.upd).cells HG.out
        obtain ⟨rfl, rfl⟩ : g = g' ∧ o = o' := by cases he; exact ⟨rfl, rfl⟩
        simp only [] at f2 f3 f5
        obtain ⟨z0, zl, z1, zl'⟩ := hI.cells
        have H9 := Lib.hid hI
        clear hI he hg' f0 f1 f4 f6 f7 HB
        have hS := And.intro z1 (And.intro f2 (And.intro f3 f5))
        refine hK _ _ hS ?_; clear hK K
        (try simp only [Act.put, List.setIfInBounds_toArray, List.set_cons_succ, List.set_cons_zero])
        refine wpE_take (i := 18) (oi := { dst := some 117, op := Go.Op.move (Go.Operand.tmp 135), type := 51, pos := "law.go:219", after := #[{ on := 17, ground := Go.Ground.data }], guard := none }) (v := ?_) rfl (by kernel_rfl) (fun _ _ _ h => h) (Or.inl ⟨by rfl, fun W hW => ?_⟩) hS ?_
        rotate_left
        · obtain ⟨hw1, hw2, hw3, hw4⟩ := hW; go_simp; (try go_bits); (try rw [if_pos (by omega)]); (try with_reducible rfl)
        (try simp only [Act.put, List.setIfInBounds_toArray, List.set_cons_succ, List.set_cons_zero])
        refine wpE_take (i := 19) (oi := { dst := some 136, op := Go.Op.extract (Go.Operand.tmp 117) 0, type := 22, pos := "law.go:219", after := #[{ on := 18, ground := Go.Ground.data }], guard := none }) (v := ?_) rfl (by kernel_rfl) (fun _ _ _ h => h) (Or.inl ⟨by rfl, fun W hW => ?_⟩) hS ?_
        rotate_left
        · obtain ⟨hw1, hw2, hw3, hw4⟩ := hW; go_simp; (try go_bits); (try rw [if_pos (by omega)]); (try with_reducible rfl)
        (try simp only [Act.put, List.setIfInBounds_toArray, List.set_cons_succ, List.set_cons_zero])
        refine wpE_take (i := 20) (oi := { dst := some 137, op := Go.Op.extract (Go.Operand.tmp 117) 1, type := 4, pos := "law.go:219", after := #[{ on := 18, ground := Go.Ground.data }, { on := 21, ground := Go.Ground.gcOnly Go.Departure.lateStores }], guard := none }) (v := ?_) rfl (by kernel_rfl) (fun _ _ _ h => h) (Or.inl ⟨by rfl, fun W hW => ?_⟩) hS ?_
        rotate_left
        · obtain ⟨hw1, hw2, hw3, hw4⟩ := hW; go_simp; (try go_bits); (try rw [if_pos (by omega)]); (try with_reducible rfl)
        (try simp only [Act.put, List.setIfInBounds_toArray, List.set_cons_succ, List.set_cons_zero])
        refine wpE_only (i := 21) (oi := { dst := some 18, op := Go.Op.assign (Go.Operand.tmp 136), type := 22, pos := "law.go:219", after := #[{ on := 19, ground := Go.Ground.data }, { on := 17, ground := Go.Ground.chain }, { on := 0, ground := Go.Ground.phase }, { on := 1, ground := Go.Ground.phase }, { on := 2, ground := Go.Ground.phase }, { on := 3, ground := Go.Ground.phase }, { on := 4, ground := Go.Ground.phase }, { on := 5, ground := Go.Ground.phase }, { on := 6, ground := Go.Ground.phase }, { on := 7, ground := Go.Ground.phase }, { on := 8, ground := Go.Ground.phase }, { on := 9, ground := Go.Ground.phase }, { on := 10, ground := Go.Ground.phase }, { on := 11, ground := Go.Ground.phase }, { on := 12, ground := Go.Ground.phase }, { on := 13, ground := Go.Ground.phase }, { on := 14, ground := Go.Ground.phase }, { on := 15, ground := Go.Ground.phase }, { on := 16, ground := Go.Ground.phase }, { on := 17, ground := Go.Ground.phase }, { on := 18, ground := Go.Ground.phase }, { on := 19, ground := Go.Ground.phase }, { on := 20, ground := Go.Ground.textOnly Go.Departure.lateStores }], guard := none }) rfl (by kernel_rfl) (by rfl) (fun K hK => ?_)
        go_simp; (try go_bits); refine hK _ _ hS ?_; clear hK K
        (try simp only [Act.put, List.setIfInBounds_toArray, List.set_cons_succ, List.set_cons_zero])
        refine wpE_last (oi := { dst := some 19, op := Go.Op.assign (Go.Operand.tmp 137), type := 4, pos := "law.go:219", after := #[{ on := 20, ground := Go.Ground.data }, { on := 21, ground := Go.Ground.chain }, { on := 0, ground := Go.Ground.phase }, { on := 1, ground := Go.Ground.phase }, { on := 2, ground := Go.Ground.phase }, { on := 3, ground := Go.Ground.phase }, { on := 4, ground := Go.Ground.phase }, { on := 5, ground := Go.Ground.phase }, { on := 6, ground := Go.Ground.phase }, { on := 7, ground := Go.Ground.phase }, { on := 8, ground := Go.Ground.phase }, { on := 9, ground := Go.Ground.phase }, { on := 10, ground := Go.Ground.phase }, { on := 11, ground := Go.Ground.phase }, { on := 12, ground := Go.Ground.phase }, { on := 13, ground := Go.Ground.phase }, { on := 14, ground := Go.Ground.phase }, { on := 15, ground := Go.Ground.phase }, { on := 16, ground := Go.Ground.phase }, { on := 17, ground := Go.Ground.phase }, { on := 18, ground := Go.Ground.phase }, { on := 19, ground := Go.Ground.phase }, { on := 20, ground := Go.Ground.phase }, { on := 21, ground := Go.Ground.phase }], guard := none }) rfl (by kernel_rfl) (by kernel_rfl) (by rfl) (fun K hK => ?_)
        go_simp; (try go_bits); refine hK _ _ ?_; clear hK K
        clear hS
        cases bb
        · go_wp2
          exact ⟨⟨j + 1, by omega, by go_num, own9, H9.out⟩, by simp [intOf]; omega⟩
        · go_wp2
          exact ⟨⟨j + 1, by omega, by go_num, own9, H9.out⟩, by simp [intOf]; omega⟩
    · obtain rfl : j = L2.length := by omega
      have HU := Lib.hid hI.upd
      clear hI HLo HL2 HM2
      go_wp2_with fail
      ((with_reducible refine (awake07 _).mono ?_); rintro e w13 ⟨rfl, hU13⟩)
      have HE := Lib.hid (HU.out.trans' hU13 (fun _ _ e => e))
      clear hU13 HU
      go_wp2
      go_ret
      exact ⟨rfl, HE.out⟩
end Go.Proofs.Ytlgcplekcmocbaa
