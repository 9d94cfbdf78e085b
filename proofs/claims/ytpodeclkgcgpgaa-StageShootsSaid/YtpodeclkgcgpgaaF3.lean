import Derived.Test.YtpodeclkgcgpgaaF2
/- FrameReserved's walk -/
namespace Go.Proofs.Ytpodeclkgcgpgaa
set_option linter.unusedVariables false
open Go.RowKit
set_option maxRecDepth 100000

/-- where a slice that holds something starts -/
theorem Reads.start {w : World} {B size n : Nat} {A : Option Addr} {xs : List Value} (h : Reads w B size A n xs) (hn : 0 < n) (hs : 0 < size) : ∃ b o, A = some ⟨b, o, none⟩ ∧ b < B ∧ ∀ j u, xs[j]? = some u → w.cell? ⟨b, o + j, none⟩ = some u := by
  obtain ⟨ad, rfl, hb, hc⟩ := h.2 hn
  have hl : 0 < xs.length := by rw [h.1]; exact Nat.mul_pos hn hs
  have h0 := hc 0 _ (List.getElem?_eq_getElem hl)
  obtain ⟨b, o, sp⟩ := ad
  cases sp with
  | some k =>
    simp only [Addr.add, if_true] at h0
    unfold World.cell? at h0
    split at h0 <;> simp at h0
  | none =>
    refine ⟨b, o, rfl, hb, fun j u hu => ?_⟩
    have := hc j u hu
    rwa [Addr.add_lit] at this
def wfI (x : Int) : Prop := -9223372036854775808 ≤ x ∧ x ≤ 9223372036854775807
def wfU (x : Int) : Prop := 0 ≤ x ∧ x < 18446744073709551616
def Op3 (xs : List Value) (i : Nat) (k a v : Int) : Prop := xs[i * 3]? = some (.int .i64 k) ∧ xs[i * 3 + 1]? = some (.int .i64 a) ∧ xs[i * 3 + 2]? = some (.int .u64 v)

theorem takeP_len (ow : List Int) (o : Int) : (takeP ow o).2.2.length = ow.length := by
  unfold takeP; split
  · cases freeP ow <;> simp
  · rfl
theorem ackP_len (h n : Nat) (s : PSt) (k : Int) : (ackP h n s k).ow.length = s.ow.length := by
  unfold ackP; split
  · exact (ackN_len _ _ _).1
  · rfl
theorem relP_len (res : Int) (h : Nat) (s : PSt) (f : Int) : (relP res h s f).ow.length = s.ow.length := by
  unfold relP; split <;> simp
theorem Step.upd0 {C : Nat → Prop} {own' : Nat → Nat} {w w' : World} (h : Step C (fun _ => 0) w own' w') (hc : ¬ C 0) : Upd (fun _ => False) w w' := h.upd.mono (fun _ _ hh => hc hh)
/-- a law's state: pool and memory, over a world that was there -/
def St (w : World) (pp rp n r h : Nat) (own' : Nat → Nat) (wr : World) (s : PSt) : Prop := Step (fun x => x = 3 ∨ x = 1) (fun _ => 0) w own' wr ∧ PM own' 3 1 wr pp rp 0 n r h s
theorem St.new {w wr w' : World} {pp rp n r h : Nat} {own' : Nat → Nat} {s : PSt} (hs : St w pp rp n r h own' wr s) (hU : Upd (fun _ => False) wr w') : St w pp rp n r h own' w' s := by
  have hst : Step (fun _ => False) own' wr own' w' := ⟨hU.mono (fun _ _ h => h), fun _ _ => rfl⟩
  exact ⟨hs.1.trans (hst.mono (fun _ h => h.elim)), hs.2.1.step hst (fun h => h), hs.2.2.step hst (fun h => h)⟩
theorem St.newc {w wr w' : World} {pp rp n r h : Nat} {own' : Nat → Nat} {s : PSt} (hs : St w pp rp n r h own' wr s) (hU : Upd (fun _ => False) wr w') : St w pp rp n r h (ext own' wr 0) w' s := by
  have hst : Step (fun _ => False) own' wr (ext own' wr 0) w' := ⟨hU.mono (fun _ _ h => h), fun b hb => ext_old _ _ _ hb⟩
  exact ⟨hs.1.trans (hst.mono (fun _ h => h.elim)), hs.2.1.step hst (fun h => h), hs.2.2.step hst (fun h => h)⟩
theorem St.go {w wr w' : World} {pp rp n r h : Nat} {own1 own2 : Nat → Nat} {s s' : PSt} (hs : St w pp rp n r h own1 wr s) (hS : Step (fun x => x = 3 ∨ x = 1) own1 wr own2 w') (hP : PM own2 3 1 w' pp rp 0 n r h s') : St w pp rp n r h own2 w' s' := ⟨hs.1.trans hS, hP⟩
theorem St.upd {w wr : World} {pp rp n r h : Nat} {own' : Nat → Nat} {s : PSt} (hs : St w pp rp n r h own' wr s) : Upd (fun _ => False) w wr := hs.1.upd0 (by omega)

set_option maxHeartbeats 1000000 in
theorem reserved_calls (n reserved : Int) (hn : wfI n) (hr : wfI reserved) (A : Option Addr) (cap m : Nat) (xs : List Value) (w : World)
    (hrd : Reads w w.heap.size 3 A m xs) (hm : m ≤ 9223372036854775807) (hx : ∀ i, i < m → ∃ k a v, Op3 xs i k a v ∧ wfI k ∧ wfI a ∧ wfU v) :
    Calls Try.prog 3 #[.int .i64 n, .int .i64 reserved, .slice A m cap] w fun e w' => e = .returned (.bool true) ∧ Upd (fun _ => False) w w' := by
  have HX := Lib.hid (And.intro hrd hx)
  clear hrd hx
  go_enter Try.func3, Try.ntmps3
  go_wp2_with fail
  refine (place_calls n 8 _ hn.1 hn.2 (by omega) (by omega)).mono ?_; rintro e wz ⟨rfl, rfl⟩
  have hp0 := Int.emod_nonneg n (show (8 : Int) ≠ 0 from by decide)
  have hp1 := Int.emod_lt_of_pos n (show (0 : Int) < 8 from by decide)
  obtain ⟨k0, hk0⟩ := Int.eq_ofNat_of_zero_le hp0
  rw [hk0] at hp0 hp1 ⊢
  clear hk0
  go_wp2_with fail
  refine (place_calls reserved (1 + (k0 : Int) + 1) _ hr.1 hr.2 (by omega) (by omega)).mono ?_; rintro e wz ⟨rfl, rfl⟩
  have hq0 := Int.emod_nonneg reserved (show (1 + (k0 : Int) + 1) ≠ 0 from by omega)
  have hq1 := Int.emod_lt_of_pos reserved (show (0 : Int) < 1 + (k0 : Int) + 1 from by omega)
  obtain ⟨r, hr0⟩ := Int.eq_ofNat_of_zero_le hq0
  rw [hr0] at hq0 hq1 ⊢
  clear hr0
  go_wp2_with fail
  have hMem := law_Memory (1 + k0) (by omega) (by omega) (fun _ => 0) 1 2 (by omega) w
  rw [show ((1 + k0 : Nat) : Int) = 1 + (k0 : Int) from by omega] at hMem
  refine hMem.mono ?_
  rintro e w1 ⟨p1, p2, own1, rfl, hS1, hM1, _⟩
  have hA : Step (fun _ => False) own1 w1 own1 (w1.alloc (.cells #[.pointer (some ⟨p1, 0, none⟩), .pointer (some ⟨p2, 0, none⟩)] 27)) := ⟨(Upd.refl _ _).alloc _, fun _ _ => rfl⟩
  have H1 := Lib.hid (And.intro (hS1.trans hA) (hM1.step hA (fun h => h)))
  clear hA hS1 hM1 hMem
  go_wp2_with fail
  refine (pool_New H1.out.2 r 1 (by omega) (by omega) (by omega) 3).mono ?_
  rintro e w2 ⟨pp, own2, rfl, hS2, hP2⟩
  have hM2 := H1.out.2.step hS2 (fun h => h)
  have H2 := Lib.hid (show St w pp p1 (1 + k0) r 1 own2 w2 ⟨initO (1 + k0) r, List.replicate (1 + k0) 0, fun _ => 0, 0⟩ from ⟨(H1.out.1.trans hS2).mono (fun _ h => h.elim), hP2, hM2⟩)
  clear hS2 hP2 hM2 H1
  go_wp2
  go_loopw [13] (fun i wr => ∃ (k : Nat), k ≤ m ∧ i = .int .i64 (k : Int) ∧ Hid (∃ own' s, St w pp p1 (1 + k0) r 1 own' wr s ∧ Resv r s.ow s.bt ∧ s.ow.length = 1 + k0)) (fun i _ => m - (intOf i).toNat)
  case atStart => exact ⟨0, by omega, rfl, own2, _, H2.out, Resv.init (by omega), initO_len (by omega)⟩
  case round =>
    obtain ⟨k, hk, rfl, HR⟩ := hrel
    by_cases hlt : k < m
    · obtain ⟨b, o, rfl, hbw, hcs⟩ := HX.out.1.start (by omega) (by omega)
      obtain ⟨kd, a, v, ⟨x0, x1, x2⟩, ⟨hkd0, hkd1⟩, ⟨ha0, ha1⟩, hv0, hv1⟩ := HX.out.2 k hlt
      obtain ⟨own3, s, hSt, hRs, hln⟩ := HR.out
      have c0 := (hSt.upd.cell hbw (fun h => h)).trans (hcs _ _ x0)
      have c1 := (hSt.upd.cell hbw (fun h => h)).trans (hcs _ _ x1)
      have c2 := (hSt.upd.cell hbw (fun h => h)).trans (hcs _ _ x2)
      simp only [← Nat.add_assoc] at c1 c2
      have H3 := Lib.hid (And.intro hSt (And.intro hRs hln))
      clear x0 x1 x2 hcs hSt hRs hln HR
      go_wp2_with fail
      refine (place_calls kd 4 _ hkd0 hkd1 (by omega) (by omega)).mono ?_; rintro e wz ⟨rfl, rfl⟩
      have hpv0 := Int.emod_nonneg kd (show (4 : Int) ≠ 0 from by decide)
      have hpv1 := Int.emod_lt_of_pos kd (show (0 : Int) < 4 from by decide)
      generalize kd % 4 = pv at *
      have hxb := Blk.new wr 36 #[.int .i64 kd, .int .i64 a, .int .u64 v]
      have hxc : ext own3 wr 0 wr.heap.size = 0 := ext_new _ _ _ (Nat.le_refl _)
      have hxl := hxb.lt
      have hSW := H3.out.1.newc ((Upd.refl (fun _ => False) wr).alloc (.cells #[.int .i64 kd, .int .i64 a, .int .u64 v] 36))
      have d1 := hxb.cell 1
      have H4 := Lib.hid (And.intro hSW H3.out.2)
      clear hxb hSW H3 c0 c1 c2
      generalize (wr.alloc (.cells #[.int .i64 kd, .int .i64 a, .int .u64 v] 36)) = W at *
      generalize ext own3 wr 0 = own4 at *
      generalize wr.heap.size = xb at *
      simp only [List.getElem?_toArray, List.getElem?_cons_succ, List.getElem?_cons_zero] at d1
      go_upto_block 2 with fail
      go_cut [] (fun wx => Hid (∃ own' s', St w pp p1 (1 + k0) r 1 own' wx s' ∧ Resv r s'.ow s'.bt ∧ s'.ow.length = 1 + k0))
      case first =>
        have hpv : pv = 0 ∨ pv = 1 ∨ pv = 2 ∨ pv = 3 := by omega
        rcases hpv with rfl | rfl | rfl | rfl
        · have hT := pool_Take H4.out.1.2.1 a
          have hK' := H4.out.2.1.take a
          have hL := takeP_len s.ow a
          generalize takeP s.ow a = t at *
          obtain ⟨t1, t2, t3⟩ := t
          simp only [] at hT hK' hL
          have HT := Lib.hid hT
          have HK := Lib.hid hK'
          clear hT hK'
          go_wp2_with fail
          refine HT.out.mono ?_; rintro e wy ⟨rfl, hS, hP⟩
          have H5 := Lib.hid (show ∃ own' s', St w pp p1 (1 + k0) r 1 own' wy s' ∧ Resv r s'.ow s'.bt ∧ s'.ow.length = 1 + k0 from
            ⟨own4, ⟨t3, s.bt, s.m, 0⟩, H4.out.1.go (hS.mono (fun x h => Or.inl h)) ⟨hP, H4.out.1.2.2.step hS (by omega)⟩, HK.out.1, hL.trans H4.out.2.2⟩)
          clear hS hP HT
          by_cases h0 : t2 = 0
          · have hle := HK.out.2 h0
            subst h0
            have hd : decide (t1 < (r : Int)) = false := by simp; omega
            go_wp2
            go_meet
            exact H5.out
          · have hd : (t2 == 0) = false := by simpa using h0
            go_wp2
            go_meet
            exact H5.out
        · have hT := pool_Release (hn := 1) (by omega) (by omega) s H4.out.1.2 a
          have HT := Lib.hid hT
          clear hT
          go_wp2_with fail
          refine HT.out.mono ?_; rintro e wy ⟨rfl, own5, hS, hP⟩
          have d1' : wy.cell? ⟨xb, 1, none⟩ = some (.int .i64 a) := (hS.upd.cell (p := ⟨xb, 1, none⟩) hxl (by show ¬ (own4 xb = 3 ∨ own4 xb = 1); omega)).trans d1
          have H5 := Lib.hid (show ∃ own' s', St w pp p1 (1 + k0) r 1 own' wy s' ∧ Resv r s'.ow s'.bt ∧ s'.ow.length = 1 + k0 from
            ⟨own5, _, H4.out.1.go hS hP, H4.out.2.1.rel a, (relP_len _ _ _ _).trans H4.out.2.2⟩)
          clear hS hP HT
          by_cases hok : relOk r s.ow a = true
          · obtain ⟨⟨g0, g1⟩, g2, _, _⟩ := relOk_iff.1 hok
            rw [H4.out.2.2] at g1
            rw [hok, if_pos rfl]
            have hd : decide (a < (r : Int)) = false := by simp; omega
            have hd2 : decide (1 + (k0 : Int) ≤ a) = false := by simp; omega
            clear hok
            go_wp2
            go_meet
            exact H5.out
          · rw [if_neg hok]
            clear hok
            go_wp2
            go_meet
            exact H5.out
        · have hT := pool_Ack (hn := 1) (by omega) (by omega) ⟨s.ow, s.bt, s.m, 0⟩ rfl H4.out.1.2 a ha0 ha1
          have HT := Lib.hid hT
          clear hT
          go_wp2_with fail
          refine HT.out.mono ?_; rintro e wy ⟨rfl, own5, hS, hP⟩
          have H5 := Lib.hid (show ∃ own' s', St w pp p1 (1 + k0) r 1 own' wy s' ∧ Resv r s'.ow s'.bt ∧ s'.ow.length = 1 + k0 from
            ⟨own5, _, H4.out.1.go hS hP, H4.out.2.1.ack (s := ⟨s.ow, s.bt, s.m, 0⟩) a, (ackP_len _ _ _ _).trans H4.out.2.2⟩)
          clear hS hP HT
          go_wp2
          go_meet
          exact H5.out
        · have hT := pool_AckDevices (by omega) ⟨s.ow, s.bt, s.m, 0⟩ rfl H4.out.1.2
          have HT := Lib.hid hT
          clear hT
          go_wp2_with fail
          refine HT.out.mono ?_; rintro e wy ⟨rfl, own5, hS, hP⟩
          have H5 := Lib.hid (show ∃ own' s', St w pp p1 (1 + k0) r 1 own' wy s' ∧ Resv r s'.ow s'.bt ∧ s'.ow.length = 1 + k0 from
            ⟨own5, _, H4.out.1.go hS hP, H4.out.2.1.ackN (s := ⟨s.ow, s.bt, s.m, 0⟩) _ _, (ackN_len _ _ _).1.trans H4.out.2.2⟩)
          clear hS hP HT
          go_wp2
          go_meet
          exact H5.out
      case rest =>
        clear d1 H4
        go_wp2
        go_loopw [17] (fun f wx => ∃ j : Nat, j ≤ r ∧ f = .int .i64 (j : Int) ∧ Hid (∃ own' s', St w pp p1 (1 + k0) r 1 own' wx s' ∧ Resv r s'.ow s'.bt ∧ s'.ow.length = 1 + k0)) (fun f _ => r - (intOf f).toNat)
        case atStart => exact ⟨0, by omega, rfl, hcut.out⟩
        case round =>
          obtain ⟨j, hj, rfl, HJ⟩ := hrel
          by_cases hjr : j < r
          · obtain ⟨own4, s4, hSt, hRs, hln⟩ := HJ.out
            have hO := pool_Owner hSt.2.1 (j : Int)
            have hWt := pool_Waits hSt.2.1 (j : Int)
            rw [(hRs.owner hjr).1] at hO
            rw [(hRs.owner hjr).2] at hWt
            have HO := Lib.hid hO
            have HW := Lib.hid hWt
            have H5 := Lib.hid (And.intro hSt (And.intro hRs hln))
            clear hO hWt hSt hRs hln HJ
            go_wp2_with fail
            refine HO.out.mono ?_; rintro e wy ⟨rfl, rfl⟩
            go_wp2_with fail
            refine HW.out.mono ?_; rintro e wy ⟨rfl, own5, hS5, hP5⟩
            have H6 := Lib.hid (show ∃ own' s', St w pp p1 (1 + k0) r 1 own' wy s' ∧ Resv r s'.ow s'.bt ∧ s'.ow.length = 1 + k0 from
              ⟨own5, s4, H5.out.1.go (hS5.mono (fun x h => Or.inl h)) ⟨hP5, H5.out.1.2.2.step hS5 (by omega)⟩, H5.out.2⟩)
            clear hS5 hP5 HO HW H5
            go_wp2
            exact ⟨⟨j + 1, by omega, by go_num, H6.out⟩, by simp [intOf]; omega⟩
          · obtain rfl : j = r := by omega
            go_wp2
            exact ⟨⟨k + 1, by omega, by go_num, HJ.out⟩, by simp [intOf]; omega⟩
    · obtain rfl : k = m := by omega
      obtain ⟨own3, s, hSt, hRs, hln⟩ := HR.out
      have hU := Lib.hid hSt.upd
      clear hSt hRs hln HR
      go_wp2_with fail
      refine (awake_calls _).mono ?_; rintro e w4 ⟨rfl, hU4⟩
      go_wp2
      go_ret
      exact ⟨rfl, hU.out.trans hU4⟩
end Go.Proofs.Ytpodeclkgcgpgaa
