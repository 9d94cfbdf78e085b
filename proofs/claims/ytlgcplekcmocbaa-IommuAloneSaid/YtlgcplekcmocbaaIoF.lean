import Derived.Test.YtlgcplekcmocbaaIoV
import Derived.Test.YtlgcplekcmocbaaIo8
import Derived.Test.YtlgcplekcmocbaaLaw3
/- IommuForgets: the walk. -/
namespace Go.Proofs.Ytlgcplekcmocbaa
set_option linter.unusedVariables false
set_option linter.unusedSimpArgs false
open Go.RowKit
set_option maxRecDepth 100000

theorem SoundL.nil (n : Nat) (m : Nat → Int) (rt : Nat → Nat) : SoundL n m rt [] := fun t ht => by cases ht
theorem rootP_congr {s s' : Us} (h : s.rt = s'.rt) (dev : Int) : rootP s dev = rootP s' dev := by unfold rootP; rw [h]
theorem accTT_congr {n : Nat} {m : Nat → Int} {s s' : Us} (h : s.rt = s'.rt) (dev : Int) (a : Nat) (sz : Int) (wr : Bool) : accTT n m s dev a sz wr = accTT n m s' dev a sz wr := by
  unfold accTT; rw [rootP_congr h]
theorem flush_all {l : List Tr} {v : Int} (h : ∀ t ∈ l, t.v = v) : flushT l v = [] := by
  unfold flushT
  rw [List.filter_eq_nil_iff]
  intro t ht
  simp [h t ht]
/-- two IOMMUs, and what a law carries along -/
structure FB (w0 : World) (own : Nat → Nat) (w : World) (p q rp tp p2 xo p' q' rp' tp' p2' xo' r : Nat) (s s' : Us) (m m' : Nat → Int) (l l' : List Tr) : Prop where
  st : Step (fun x => x ≠ 0 ∧ x < 50) (fun _ => 0) w0 own w
  a : Sd 0 own w p rp tp r s m l
  b : Sd 20 own w p' rp' tp' r s' m' l'
  o : Blk w xo 31 #[.pointer (some ⟨p, 0, none⟩), .pointer (some ⟨q, 0, none⟩), .pointer (some ⟨rp, 0, none⟩), .pointer (some ⟨p2, 0, none⟩)] ∧ own xo = 50
  o' : Blk w xo' 31 #[.pointer (some ⟨p', 0, none⟩), .pointer (some ⟨q', 0, none⟩), .pointer (some ⟨rp', 0, none⟩), .pointer (some ⟨p2', 0, none⟩)] ∧ own xo' = 50
section
variable {w0 w w' : World} {own own' : Nat → Nat} {p q rp tp p2 xo p' q' rp' tp' p2' xo' r : Nat} {s s' s2 : Us} {m m' m2 : Nat → Int} {l l' l2 : List Tr}
theorem FB.upd (h : FB w0 own w p q rp tp p2 xo p' q' rp' tp' p2' xo' r s s' m m' l l') : Upd (fun _ => False) w0 w := h.st.upd.mono (fun i hi e => absurd rfl e.1)
theorem FB.stepA (h : FB w0 own w p q rp tp p2 xo p' q' rp' tp' p2' xo' r s s' m m' l l') (hS : Step (fun x => 0 < x ∧ x ≤ 0 + 4) own w own' w') (hA : Sd 0 own' w' p rp tp r s2 m2 l2) : FB w0 own' w' p q rp tp p2 xo p' q' rp' tp' p2' xo' r s2 s' m2 m' l2 l' :=
  ⟨h.st.trans (hS.mono (fun x h => by omega)), hA, h.b.step hS (fun x h => by omega), hS.blk h.o.1 h.o.2 (by omega), hS.blk h.o'.1 h.o'.2 (by omega)⟩
theorem FB.stepB (h : FB w0 own w p q rp tp p2 xo p' q' rp' tp' p2' xo' r s s' m m' l l') (hS : Step (fun x => 20 < x ∧ x ≤ 20 + 4) own w own' w') (hB : Sd 20 own' w' p' rp' tp' r s2 m2 l2) : FB w0 own' w' p q rp tp p2 xo p' q' rp' tp' p2' xo' r s s2 m m2 l l2 :=
  ⟨h.st.trans (hS.mono (fun x h => by omega)), h.a.step hS (fun x h => by omega), hB, hS.blk h.o.1 h.o.2 (by omega), hS.blk h.o'.1 h.o'.2 (by omega)⟩
theorem FB.none_ (h : FB w0 own w p q rp tp p2 xo p' q' rp' tp' p2' xo' r s s' m m' l l') (hS : Step (fun _ => False) own w own' w') : FB w0 own' w' p q rp tp p2 xo p' q' rp' tp' p2' xo' r s s' m m' l l' :=
  ⟨h.st.trans (hS.mono (fun x h => h.elim)), h.a.step hS (fun x h => h.elim), h.b.step hS (fun x h => h.elim), hS.blk h.o.1 h.o.2 (fun h => h), hS.blk h.o'.1 h.o'.2 (fun h => h)⟩
theorem FB.alloc (h : FB w0 own w p q rp tp p2 xo p' q' rp' tp' p2' xo' r s s' m m' l l') (o : Obj) : FB w0 (ext own w 50) (w.alloc o) p q rp tp p2 xo p' q' rp' tp' p2' xo' r s s' m m' l l' :=
  h.none_ ⟨(Upd.refl _ _).alloc _, fun b hb => ext_old _ _ _ hb⟩
theorem FB.cells (h : FB w0 own w p q rp tp p2 xo p' q' rp' tp' p2' xo' r s s' m m' l l') : w.cell? ⟨xo, 0, none⟩ = some (.pointer (some ⟨p, 0, none⟩)) ∧ xo < w.heap.size ∧ w.cell? ⟨xo', 0, none⟩ = some (.pointer (some ⟨p', 0, none⟩)) ∧ xo' < w.heap.size := ⟨h.o.1.cell 0, h.o.1.lt, h.o'.1.cell 0, h.o'.1.lt⟩
end
set_option maxHeartbeats 8000000 in
theorem forgets_calls (w : World) (v : Value) (cs : List (Int × Nat)) (hv : CellsAt w v cs) (hlen : cs.length ≤ 9223372036854775807) (hb : ∀ x ∈ cs, -9223372036854775808 ≤ x.1 ∧ x.1 ≤ 9223372036854775807 ∧ x.2 < 18446744073709551616)
    (root : Nat) (hroot : root < 18446744073709551616) (A : Option Addr) (cap : Nat) (L : List OpR) (hL : OpsAt w (.slice A L.length cap) L) (hLb : ∀ o ∈ L, OpB o) (hLl : L.length ≤ 9223372036854775807) :
    Calls Try.prog 7 #[v, .int .u64 (root : Int), .slice A L.length cap] w fun e w' => e = .returned (.bool true) ∧ Upd (fun _ => False) w w' := by
  obtain ⟨M0, hM0⟩ : ∃ M0, cellsM 8 (fun _ => 0) cs = M0 := ⟨_, rfl⟩
  have hN := law07_NewC 0 (fun _ => 0) 3 (by decide) w v cs hv hlen hb
  have hN2 := fun (own1 : Nat → Nat) (w1 : World) (hU : Upd (fun _ => False) w w1) => law07_NewC 20 own1 3 (by decide) w1 v cs (hv.upd hU) hlen hb
  rw [hM0, show ((3 : Nat) : Int) = 3 from rfl] at hN
  simp only [hM0, show ((3 : Nat) : Int) = 3 from rfl] at hN2
  have HN := Lib.hid hN
  have HN2 := Lib.hid hN2
  obtain ⟨A0, cap0, rfl, _⟩ := hv
  have HL := Lib.hid (And.intro hL hLb)
  clear hN hN2 hlen hb hL hLb hM0
  go_enter Try.func7, Try.ntmps7
  go_wp2_with fail
  ((with_reducible refine HN.out.mono ?_); rintro e w1 ⟨p, q, rp, tp, p2, t2, own1, rfl, hS1, hO1⟩)
  have hS2 : Step (fun _ => False) own1 w1 (ext own1 w1 50) (w1.alloc (.cells #[.pointer (some ⟨p, 0, none⟩), .pointer (some ⟨q, 0, none⟩), .pointer (some ⟨rp, 0, none⟩), .pointer (some ⟨p2, 0, none⟩)] 31)) := ⟨(Upd.refl _ _).alloc _, fun b hb => ext_old _ _ _ hb⟩
  have hSd1 := Sd.of_on (hO1.step hS2 (fun x h => h.elim))
  have hX := (hS1.trans hS2)
  have HN3 := Lib.hid (HN2.out (ext own1 w1 50) (w1.alloc (.cells #[.pointer (some ⟨p, 0, none⟩), .pointer (some ⟨q, 0, none⟩), .pointer (some ⟨rp, 0, none⟩), .pointer (some ⟨p2, 0, none⟩)] 31)) hX.upd)
  have H1 := Lib.hid (And.intro hX (And.intro hSd1 (And.intro (Blk.new w1 31 #[.pointer (some ⟨p, 0, none⟩), .pointer (some ⟨q, 0, none⟩), .pointer (some ⟨rp, 0, none⟩), .pointer (some ⟨p2, 0, none⟩)]) (show ext own1 w1 50 w1.heap.size = 50 from ext_new _ _ _ (Nat.le_refl _)))))
  clear hS1 hO1 hS2 hSd1 hX HN HN2
  go_wp2_with fail
  generalize w1.heap.size = xo at *
  ((with_reducible refine HN3.out.mono ?_); rintro e w2 ⟨p', q', rp', tp', p2', t2', own2, rfl, hS3, hO3⟩)
  have hS4 : Step (fun _ => False) own2 w2 (ext own2 w2 50) (w2.alloc (.cells #[.pointer (some ⟨p', 0, none⟩), .pointer (some ⟨q', 0, none⟩), .pointer (some ⟨rp', 0, none⟩), .pointer (some ⟨p2', 0, none⟩)] 31)) := ⟨(Upd.refl _ _).alloc _, fun b hb => ext_old _ _ _ hb⟩
  have hSd2 := Sd.of_on (hO3.step hS4 (fun x h => h.elim))
  have hSa := hS3.trans hS4
  have hB3 : FB w (ext own2 w2 50) (w2.alloc (.cells #[.pointer (some ⟨p', 0, none⟩), .pointer (some ⟨q', 0, none⟩), .pointer (some ⟨rp', 0, none⟩), .pointer (some ⟨p2', 0, none⟩)] 31)) p q rp tp p2 xo p' q' rp' tp' p2' w2.heap.size 3 us0 us0 M0 M0 [] [] :=
    ⟨(H1.out.1.trans hSa).mono (fun _ h => h.elim), H1.out.2.1.step hSa (fun x h => h.elim), hSd2, hSa.blk H1.out.2.2.1 H1.out.2.2.2 (fun h => h), Blk.new w2 _ _, ext_new _ _ _ (Nat.le_refl _)⟩
  have HA1 := hB3.a.set 2 root (by decide) rfl hroot
  rw [show ((2 : Nat) : Int) = 2 from rfl] at HA1
  have HA := Lib.hid HA1
  obtain ⟨x0, xl, x1, xl'⟩ := hB3.cells
  have H3 := Lib.hid hB3
  clear hS3 hO3 hS4 hSd2 hSa hB3 HA1 HN3 H1
  go_wp2_with fail
  generalize w2.heap.size = xo' at *
  ((with_reducible refine HA.out.mono ?_); rintro e w4 ⟨rfl, own4, hS4, hA4⟩)
  have hB4 := H3.out.stepA hS4 hA4
  have HA1 := hB4.b.set 2 root (by decide) rfl hroot
  rw [show ((2 : Nat) : Int) = 2 from rfl] at HA1
  have HA2 := Lib.hid HA1
  have H4 := Lib.hid hB4
  obtain ⟨x0, xl, x1, xl'⟩ := hB4.cells
  clear hS4 hA4 hB4 HA1 HA H3
  go_wp2_with fail
  ((with_reducible refine HA2.out.mono ?_); rintro e w5 ⟨rfl, own5, hS5, hA5⟩)
  have hB5 := H4.out.stepB hS5 hA5
  obtain ⟨RT, hRT⟩ : ∃ RT, (usRt us0 2 root).rt = RT := ⟨_, rfl⟩
  have H5 := Lib.hid (show ∃ own' s s' l, FB w own' w5 p q rp tp p2 xo p' q' rp' tp' p2' xo' 3 s s' M0 M0 l [] ∧ SoundL 8 M0 RT l ∧ s.rt = RT ∧ s'.rt = RT ∧ s.rd = false ∧ s'.rd = false from ⟨own5, _, _, _, hB5, SoundL.nil _ _ _, hRT, hRT, rfl, rfl⟩)
  clear hS5 hA5 hB5 HA2 H4 hRT x0 xl x1 xl'
  go_wp2
  go_loopw [11] (fun i wr => ∃ (j : Nat), j ≤ L.length ∧ i = .int .i64 (j : Int) ∧ Hid (∃ own' s s' l, FB w own' wr p q rp tp p2 xo p' q' rp' tp' p2' xo' 3 s s' M0 M0 l [] ∧ SoundL 8 M0 RT l ∧ s.rt = RT ∧ s'.rt = RT ∧ s.rd = false ∧ s'.rd = false)) (fun i _ => L.length - (intOf i).toNat)
  case atStart => exact ⟨0, by omega, rfl, H5.out⟩
  case round =>
    rename World => wr
    obtain ⟨j, hj, rfl, HLo⟩ := hrel
    clear H5
    obtain ⟨own6, s, s', l, hB, hSo, hr1, hr2, hd1, hd2⟩ := HLo.out
    obtain ⟨x0, xl, x1, xl'⟩ := hB.cells
    by_cases hlt : j < L.length
    · have hlt' : (j : Int) < (L.length : Int) := by omega
      have hget : L[j]? = some L[j] := List.getElem?_eq_getElem hlt
      have hob := HL.out.2 _ (List.getElem_mem hlt)
      obtain ⟨g, o, rfl, hg, c0, c1, c2, c3, c4, c5, c6, c7⟩ := (HL.out.1.upd hB.upd).cells hget
      generalize L[j] = x at *
      obtain ⟨xk, xd, xs, xa, xv, xw, xg, xq⟩ := x
      simp only [] at c0 c1 c2 c3 c4 c5 c6 c7
      have hb1 := hob.s
      have hb2 := hob.a
      unfold i64B at hb1
      simp only [] at hb1 hb2
      have hB1 := hB.alloc (.cells #[.int .i64 xk, .int .i64 xd, .int .i64 xs, .int .u64 (xa : Int), .int .u64 (xv : Int), .bool xw, .int .i64 xg, .int .i64 xq] 54)
      have hm := hB.a.mm.bd
      have hA := hB1.a.acc (by decide) 2 xa hb2 xs hb1.1 hb1.2 xw
      obtain ⟨⟨PA, KD, LA⟩, hRA⟩ : ∃ RA, accA 8 M0 s 3 l 2 xa xs xw = RA := ⟨_, rfl⟩
      obtain ⟨⟨PB, KB, LB⟩, hRB⟩ : ∃ RA, accA 8 M0 s' 3 [] 2 xa xs xw = RA := ⟨_, rfl⟩
      have hs1 := accA_sound (n := 8) hm (s := s) (l := l) (by rw [hr1]; exact hSo) 3 2 xa xs xw
      have hs2 := accA_sound (n := 8) hm (s := s') (l := []) (SoundL.nil _ _ _) 3 2 xa xs xw
      have hvv := accA_v 8 M0 s' 3 [] 2 xa xs xw
      rw [hRA] at hA hs1
      rw [hRB] at hs2 hvv
      simp only [] at hA hs1 hs2 hvv
      have hPK : PB = PA ∧ KB = KD := by
        have h := hs2.1.trans ((accTT_congr (n := 8) (m := M0) (hr2.trans hr1.symm) 2 xa xs xw).trans hs1.1.symm)
        exact ⟨congrArg Prod.fst h, congrArg Prod.snd h⟩
      obtain ⟨rfl, rfl⟩ := hPK
      rw [accMt_noring hd1] at hA
      have HA := Lib.hid hA
      have hxb := Blk.new wr 54 #[.int .i64 xk, .int .i64 xd, .int .i64 xs, .int .u64 (xa : Int), .int .u64 (xv : Int), .bool xw, .int .i64 xg, .int .i64 xq]
      have hxo : ext own6 wr 50 wr.heap.size = 50 := ext_new _ _ _ (Nat.le_refl _)
      have hfl : flushT LB 2 = [] := flush_all (fun t ht => by rcases hvv t ht with h | h; cases h; exact h)
      have H6 := Lib.hid (And.intro hB1 (And.intro (And.intro hxb hxo) (And.intro (show SoundL 8 M0 RT LA by rw [← hr1]; exact hs1.2) (And.intro hr1 (And.intro hr2 (And.intro hd1 (And.intro hd2 (And.intro hRB hfl))))))))
      clear hB hSo hr1 hr2 hd1 hd2 hob hB1 hm hA hRA hRB hs1 hs2 hvv hxb hxo hfl hget HLo
      go_wp2_with fail
      generalize hxbe : wr.heap.size = xb at *
      ((with_reducible refine HA.out.mono ?_); rintro e w7 ⟨rfl, own7, hS7, hA7⟩)
      have hB7 := H6.out.1.stepA hS7 hA7
      obtain ⟨k1, k2⟩ := hS7.blk H6.out.2.1.1 H6.out.2.1.2 (by omega)
      have d2 := k1.cell 2
      have d3 := k1.cell 3
      have d5 := k1.cell 5
      simp only [List.getElem?_toArray, List.getElem?_cons_zero, List.getElem?_cons_succ] at d2 d3 d5
      have hxl := k1.lt
      have hA := hB7.b.acc (by decide) 2 xa hb2 xs hb1.1 hb1.2 xw
      rw [H6.out.2.2.2.2.2.2.2.1] at hA
      simp only [] at hA
      rw [accMt_noring H6.out.2.2.2.2.2.2.1] at hA
      have HA2 := Lib.hid hA
      obtain ⟨x0, xl, x1, xl'⟩ := hB7.cells
      have H7 := Lib.hid hB7
      clear hS7 hA7 hB7 hA HA k1 k2 c0 c1 c2 c3 c4 c5 c6 c7
      go_wp2_with fail
      ((with_reducible refine HA2.out.mono ?_); rintro e w8 ⟨rfl, own8, hS8, hA8⟩)
      have hB8 := H7.out.stepB hS8 hA8
      have hI := hB8.b.inv 2
      rw [H6.out.2.2.2.2.2.2.2.2] at hI
      have HI := Lib.hid hI
      obtain ⟨x0, xl, x1, xl'⟩ := hB8.cells
      have H8 := Lib.hid hB8
      have hKb : ((KB == 0) == (KB == 0)) = true := by simp
      obtain ⟨bb, hbb⟩ : ∃ bb, (KB == 0) = bb := ⟨_, rfl⟩
      clear hS8 hA8 hB8 hI HA2 d2 d3 d5 H7
      go_upto_region 13 with fail
      go_cut [92] (fun s92 wx => s92 = .bool false ∧ w8 = wx)
      case first =>
        cases bb
        · go_wp2
          go_meet
          exact ⟨rfl, rfl⟩
        · go_wp2
          go_meet
          exact ⟨rfl, rfl⟩
      case rest =>
        obtain ⟨rfl, rfl⟩ := hcut
        go_wp2_with fail
        ((with_reducible refine HI.out.mono ?_); rintro e w9 ⟨rfl, own9, hS9, hA9⟩)
        have hB9 := H8.out.stepB hS9 hA9
        have HE := Lib.hid (io_Entries hB9.b.u hB9.b.t 50)
        obtain ⟨x0, xl, x1, xl'⟩ := hB9.cells
        have H9 := Lib.hid hB9
        clear hS9 hA9 hB9 HI H8
        go_wp2_with fail
        ((with_reducible refine HE.out.mono ?_); rintro e w10 ⟨v2, rfl, hS10, hR10⟩)
        obtain ⟨A2, cap2, rfl, _⟩ := hR10.form
        have H10 := Lib.hid (H9.out.none_ hS10)
        clear hS10 hR10 HE H9
        go_wp2
        exact ⟨⟨j + 1, by omega, by go_num, ext own9 w9 50, _, _, LA, H10.out, H6.out.2.2.1, (accSt_rt _ _ _).trans H6.out.2.2.2.1, (accSt_rt _ _ _).trans H6.out.2.2.2.2.1, (accSt_rd _ _ _).trans H6.out.2.2.2.2.2.1, (accSt_rd _ _ _).trans H6.out.2.2.2.2.2.2.1⟩, by simp [intOf]; omega⟩
    · obtain rfl : j = L.length := by omega
      have HU := Lib.hid hB.upd
      clear hB hSo hr1 hr2 hd1 hd2 HLo HL
      go_wp2_with fail
      ((with_reducible refine (awake07 _).mono ?_); rintro e w13 ⟨rfl, hU13⟩)
      have HE := Lib.hid (HU.out.trans' hU13 (fun _ _ e => e))
      clear hU13 HU
      go_wp2
      go_ret
      exact ⟨rfl, HE.out⟩
end Go.Proofs.Ytlgcplekcmocbaa
