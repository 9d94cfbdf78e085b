import Derived.Test.YtibhialnaibkjaaPci3
namespace Go.Proofs.Ytibhialnaibkjaa
set_option linter.unusedVariables false
open Go.RowKit
set_option maxRecDepth 100000

theorem place_calls (v n : Int) (w : World) (hv0 : -9223372036854775808 ≤ v) (hv1 : v ≤ 9223372036854775807) (hn : 0 < n) (hn1 : n ≤ 1000000) :
    Calls Try.prog 9 #[.int .i64 v, .int .i64 n] w fun e w' => e = .returned (.int .i64 (v % n)) ∧ w = w' := by
  have hz : (n == 0) = false := by simp; omega
  go_enter Try.func9, Try.ntmps9
  have ht := Int.tmod_eq_emod (a := v) (b := n)
  have h0 := Int.emod_nonneg v (Int.ne_of_gt hn)
  have h1 := Int.emod_lt_of_pos v hn
  have HT := Lib.hid ht
  clear ht
  go_wp2
  · rename_i hlt
    go_ret
    refine ⟨?_, rfl⟩
    have ht := HT.out
    split at ht
    · rw [ht] at hlt; omega
    · rw [show (n.natAbs : Int) = n from by omega] at ht
      show Ending.returned (.int .i64 (wrap64 (v.tmod n + n))) = _
      rw [ht, show v % n - n + n = v % n from by omega, IntWalk.wrap64_in _ (by omega)]
  · rename_i hlt
    go_ret
    refine ⟨?_, rfl⟩
    have ht := HT.out
    split at ht
    · rw [show v.tmod n = v % n from by rw [ht]; simp]; rfl
    · rw [show (n.natAbs : Int) = n from by omega] at ht; omega

/-- a slice of one integer that the caller has just made -/
theorem reads_one (w : World) (k : Int) : Reads (w.alloc (.cells #[.int .i64 k] 3)) (w.alloc (.cells #[.int .i64 k] 3)).heap.size 1 (some ⟨w.heap.size, 0, none⟩) ([k] : List Int).length (([k] : List Int).map (.int .i64)) :=
  ⟨rfl, fun _ => ⟨_, rfl, by simp, fun j u hu => by
    rw [Addr.add_lit, Nat.zero_add, (Blk.new w 3 #[.int .i64 k]).cell]; simpa using hu⟩⟩

theorem awake_calls (w : World) : Calls Try.prog 12 #[] w fun e w' => e = .returned (.bool true) ∧ Upd (fun _ => False) w w' := by
  go_enter Try.func12, Try.ntmps12
  go_wp2_with fail
  refine (pci_New _ _ [2] _ (reads_one w 2)).mono ?_
  rintro e w1 ⟨hU, h⟩
  rcases h with ⟨_, p, q, rfl, hp, hq, hbus⟩ | ⟨h, _⟩
  · have HU := Lib.hid (((Upd.refl (fun _ => False) w).alloc _).trans hU)
    clear hU hp hq
    go_wp2_with fail
    refine (bus_Read hbus 0 0 4 (by omega) (by omega)).mono ?_; rintro e w' ⟨rfl, rfl⟩
    rw [show rdS ([2].map fresh) 0 0 4 = (272767732, true) from by decide +kernel]
    go_wp2
    go_ret
    exact ⟨rfl, HU.out⟩
  · simp [okK] at h

theorem devF_const (s : Sl) : devF s 52 = 64 ∧ devF s 65 = 80 ∧ devF s 81 = 0 ∧ num (devF s) 6 2 = 16 := by
  have a : devF s 6 = 16 := by
    unfold devF; repeat rw [put_far (by omega)]
    rw [put_in (by omega)]; decide +kernel
  have b : devF s 7 = 0 := by
    unfold devF; repeat rw [put_far (by omega)]
    rw [put_in (by omega)]; decide +kernel
  refine ⟨?_, ?_, ?_, by rw [num2, a, b]; rfl⟩
  · unfold devF; repeat rw [put_far (by omega)]
    rw [put_in (by omega)]; decide +kernel
  · unfold devF; repeat rw [put_far (by omega)]
    rw [put_in (by omega)]; decide +kernel
  · unfold devF
    rw [put_in (by omega)]; decide +kernel
theorem wrS_base (s : Sl) (v : Int) : (wrS s 16 4 v).base = v % 4294967296 / 4096 * 4096 := by
  simp only [wrS]; rw [num_put]; rfl
theorem rd_one (s : Sl) (o n : Int) (h : fitsZ o n = true) : rdS [s] 0 o n = (num (devF s) o.toNat n.toNat, true) := by simp [rdS, h, at_]
theorem wr_one (s : Sl) (o n v : Int) (h : fitsZ o n = true) : wrL [s] 0 o n v = [wrS s o.toNat n.toNat v] := by simp [wrL, h, at_]

theorem sizes_calls (kind v : Int) (w : World) (hk0 : -9223372036854775808 ≤ kind) (hk1 : kind ≤ 9223372036854775807) (hv0 : 0 ≤ v) (hv1 : v < 18446744073709551616) :
    Calls Try.prog 3 #[.int .i64 kind, .int .u64 v] w fun e w' => e = .returned (.bool true) ∧ Upd (fun _ => False) w w' := by
  go_enter Try.func3, Try.ntmps3
  go_wp2_with fail
  refine (place_calls kind 256 _ hk0 hk1 (by omega) (by omega)).mono ?_; rintro e w0 ⟨rfl, rfl⟩
  have h0 := Int.emod_nonneg kind (show (256 : Int) ≠ 0 from by decide)
  have h1 := Int.emod_lt_of_pos kind (show (0 : Int) < 256 from by decide)
  generalize kind % 256 = k at *
  go_wp2_with fail
  refine (pci_New _ _ [k] _ (reads_one w k)).mono ?_
  rintro e w1 ⟨hU, h⟩
  have hok : okK [k] = true := by simp [okK]; omega
  rcases h with ⟨_, p, q, rfl, hp, hq, hbus⟩ | ⟨h, _⟩
  · have HU := Lib.hid (((Upd.refl (fun _ => False) w).alloc _).trans hU)
    have hq' : w.heap.size ≤ q := by simp at hq; omega
    have hwf : (fresh k).wf := fresh_wf ⟨h0, by omega⟩
    clear hU hp hq hok
    rw [show [k].map fresh = [fresh k] from rfl] at hbus
    go_wp2_with fail
    refine (bus_Write hbus 0 16 4 4294967295 (by omega) (by omega) (by omega) (by omega)).mono ?_; rintro e w2 ⟨rfl, hbus2, hU2⟩
    clear hbus
    rw [show fitsZ 16 4 = true from rfl]
    rw [wr_one _ _ _ _ (by rfl)] at hbus2
    go_wp2_with fail
    refine (bus_Read hbus2 0 16 4 (by omega) (by omega)).mono ?_; rintro e w' ⟨rfl, rfl⟩
    have hwf2 := wrS_wf hwf 16 4 4294967295
    rw [rd_one _ _ _ (by rfl), show (16 : Int).toNat = 16 from rfl, show (4 : Int).toNat = 4 from rfl, num_base hwf2, wrS_base, show (4294967295 : Int) % 4294967296 / 4096 * 4096 = 4294963200 from by decide]
    have HWF := Lib.hid hwf2
    clear hwf hwf2
    go_wp2_with fail
    refine (bus_Write hbus2 0 16 4 v (by omega) (by omega) hv0 hv1).mono ?_; rintro e w3 ⟨rfl, hbus3, hU3⟩
    clear hbus2
    rw [show fitsZ 16 4 = true from rfl]
    rw [wr_one _ _ _ _ (by rfl)] at hbus3
    generalize hs : wrS (wrS (fresh k) (16 : Int).toNat (4 : Int).toNat 4294967295) (16 : Int).toNat (4 : Int).toNat v = s at hbus3
    have hb : num (devF s) 16 4 = v % 4294967296 / 4096 * 4096 := by rw [← hs]; exact (num_base (wrS_wf HWF.out _ _ _)).trans (wrS_base _ _)
    obtain ⟨c1, c2, c3, c4⟩ := devF_const s
    clear hs
    have HB := Lib.hid hb
    have H1 := Lib.hid c1
    have H2 := Lib.hid c2
    have H3 := Lib.hid c3
    have H4 := Lib.hid c4
    clear hb c1 c2 c3 c4
    go_wp2_with fail
    refine (bus_Read hbus3 0 16 4 (by omega) (by omega)).mono ?_; rintro e w' ⟨rfl, rfl⟩
    rw [rd_one _ _ _ (by rfl), show (16 : Int).toNat = 16 from rfl, show (4 : Int).toNat = 4 from rfl, HB.out]
    go_wp2_with fail
    refine (bus_Read hbus3 0 52 1 (by omega) (by omega)).mono ?_; rintro e w' ⟨rfl, rfl⟩
    rw [rd_one _ _ _ (by rfl), show (52 : Int).toNat = 52 from rfl, show (1 : Int).toNat = 1 from rfl, num1, H1.out]
    go_wp2_with fail
    refine (bus_Read hbus3 0 65 1 (by omega) (by omega)).mono ?_; rintro e w' ⟨rfl, rfl⟩
    rw [rd_one _ _ _ (by rfl), show (65 : Int).toNat = 65 from rfl, show (1 : Int).toNat = 1 from rfl, num1, H2.out]
    go_wp2_with fail
    refine (bus_Read hbus3 0 81 1 (by omega) (by omega)).mono ?_; rintro e w' ⟨rfl, rfl⟩
    rw [rd_one _ _ _ (by rfl), show (81 : Int).toNat = 81 from rfl, show (1 : Int).toNat = 1 from rfl, num1, H3.out]
    go_wp2_with fail
    refine (bus_Read hbus3 0 6 2 (by omega) (by omega)).mono ?_; rintro e w' ⟨rfl, rfl⟩
    rw [rd_one _ _ _ (by rfl), show (6 : Int).toNat = 6 from rfl, show (2 : Int).toNat = 2 from rfl, H4.out]
    go_wp2_with fail
    refine (awake_calls _).mono ?_; rintro e w4 ⟨rfl, hU4⟩
    go_wp2
    go_ret
    exact ⟨rfl, ((HU.out.trans' hU2 (by omega)).trans' hU3 (by omega)).trans hU4⟩
  · rw [hok] at h; cases h

theorem wrF_step (f : Nat → Int) (o k : Nat) (v : Int) : wrF (wrF f o k v) (o + k) 1 (v / 2 ^ (8 * k)) = wrF f o (k + 1) v := by
  funext j
  rw [wrF_succ f o k v j]
  unfold wrF
  by_cases h : j = o + k
  · subst h; rw [if_pos (by omega), if_pos rfl, if_neg (by omega), Nat.sub_self, byteOf_zero, shr_byte]
  · rw [if_neg (by omega), if_neg h]
theorem fits4 (off : Int) (h : 0 ≤ off) : fitsZ (off % 64 * 4) 4 = true := by
  rw [fitsZ_iff]; refine ⟨by omega, by omega, by omega⟩
theorem fits1 (off : Int) (h : off < 256) : fitsZ off 1 = true := by
  rw [fitsZ_iff]; refine ⟨by omega, h, by omega⟩
theorem fits4' (off : Int) (h : off < 256) (h4 : off % 4 = 0) : fitsZ off 4 = true := by
  rw [fitsZ_iff]; exact ⟨by omega, h, h4⟩

theorem bytes_calls (kind off v : Int) (w : World) (hk0 : -9223372036854775808 ≤ kind) (hk1 : kind ≤ 9223372036854775807) (ho0 : 0 ≤ off) (ho1 : off < 18446744073709551616) (hv0 : 0 ≤ v) (hv1 : v < 18446744073709551616) :
    Calls Try.prog 4 #[.int .i64 kind, .int .u64 off, .int .u64 v] w fun e w' => e = .returned (.bool true) ∧ Upd (fun _ => False) w w' := by
  have hfit := fits4 off ho0
  have hob : 0 ≤ off % 64 * 4 ∧ off % 64 * 4 ≤ 252 := by omega
  have hom : off % 64 * 4 % 4 = 0 := by omega
  go_enter Try.func4, Try.ntmps4
  go_wp2_with fail
  refine (place_calls kind 256 _ hk0 hk1 (by omega) (by omega)).mono ?_; rintro e w0 ⟨rfl, rfl⟩
  have h0 := Int.emod_nonneg kind (show (256 : Int) ≠ 0 from by decide)
  have h1 := Int.emod_lt_of_pos kind (show (0 : Int) < 256 from by decide)
  generalize kind % 256 = k at *
  have hok : okK [k] = true := by simp [okK]; omega
  have hwf : (fresh k).wf := fresh_wf ⟨h0, by omega⟩
  go_wp2_with fail
  refine (pci_New _ _ [k] _ (reads_one w k)).mono ?_
  rintro e w1 ⟨hU, h⟩
  rcases h with ⟨_, p, q, rfl, hp, hq, hbus⟩ | ⟨h, _⟩
  case inr => rw [hok] at h; cases h
  have HU := Lib.hid (((Upd.refl (fun _ => False) w).alloc _).trans hU)
  have hq' : w.heap.size ≤ q := by simp at hq; omega
  rw [show [k].map fresh = [fresh k] from rfl] at hbus
  clear hU hp hq
  go_wp2_with fail
  refine (pci_New _ _ [k] _ (reads_one w1 k)).mono ?_
  rintro e w2 ⟨hU, h⟩
  rcases h with ⟨_, p', q', rfl, hp', hqq, hbus'⟩ | ⟨h, _⟩
  case inr => rw [hok] at h; cases h
  have hbus2 := hbus.upd (((Upd.refl (fun _ => False) w1).alloc _).trans hU) (fun h => h) (fun h => h)
  have HU2 := Lib.hid (HU.out.trans (((Upd.refl (fun _ => False) w1).alloc _).trans hU))
  have hlt := hbus.lt
  have hp2 : w1.heap.size ≤ p' := by simp at hp'; omega
  have hq2 : w1.heap.size ≤ q' := by simp at hqq; omega
  have hsz := HU.out.size
  rw [show [k].map fresh = [fresh k] from rfl] at hbus'
  clear hU hp' hqq hbus HU
  go_wp2_with fail
  have HF := Lib.hid hfit
  clear hfit hok
  refine (bus_Write hbus2 0 _ 4 v (by omega) (by omega) hv0 hv1).mono ?_; rintro e w3 ⟨rfl, hbusA, hU3⟩
  rw [HF.out]
  rw [wr_one _ _ _ _ HF.out] at hbusA
  have hbusB := hbus'.upd hU3 (by omega) (by omega)
  have HU3 := Lib.hid (HU2.out.trans' hU3 (by omega))
  clear hbus2 hbus' hU3 HU2
  obtain ⟨o, ho⟩ := Int.eq_ofNat_of_zero_le hob.1
  rw [ho] at hob hom hbusA ⊢
  have hdA : devF (wrS (fresh k) o 4 v) = wrF (devF (fresh k)) o 4 v := (wrF_devF hwf o 4 v).symm
  have HA := Lib.hid (And.intro hbusA (And.intro hbusB (And.intro HU3.out (And.intro hlt (And.intro hp2 hq2)))))
  have hlt2 : w.heap.size ≤ q ∧ w.heap.size ≤ q' := ⟨hq', by omega⟩
  have HdA := Lib.hid hdA
  have Hwf := Lib.hid hwf
  have HO := Lib.hid ho
  clear hbusA hbusB HU3 hdA hwf hlt hp2 hq2 hsz ho HF
  go_wp2
  go_loopw [13] (fun i wr => ∃ m : Nat, m ≤ 4 ∧ i = .int .u64 (m : Int) ∧ Hid (BusAt wr p q [wrS (fresh k) o 4 v] ∧ ∃ s, BusAt wr p' q' [s] ∧ s.wf ∧ devF s = wrF (devF (fresh k)) o m v ∧ Upd (fun _ => False) w wr)) (fun i _ => 4 - (intOf i).toNat)
  case atStart => exact ⟨0, by omega, rfl, HA.out.1, _, HA.out.2.1, Hwf.out, (wrF_zero _ _ _).symm, HA.out.2.2.1⟩
  case round =>
    obtain ⟨m, hm, rfl, HV⟩ := hrel
    by_cases hlt : m < 4
    · have hmm : (m : Int) < 4 := by omega
      go_wp2_with fail
      obtain ⟨hbA, s, hbB, hsw, hsd, hU⟩ := HV.out
      refine (bus_Write hbB 0 _ 1 _ (by omega) (by omega) (Int.ediv_nonneg hv0 (by exact Int.le_of_lt (Int.pow_pos (by decide)))) (Int.lt_of_le_of_lt (Int.ediv_le_self _ hv0) hv1)).mono ?_; rintro e w4 ⟨rfl, hbB', hU4⟩
      rw [fits1 _ (by omega)]
      rw [wr_one _ _ _ _ (fits1 _ (by omega)), show ((o : Int) + m).toNat = o + m from by omega, show (1 : Int).toNat = 1 from rfl] at hbB'
      have hbA' := hbA.upd hU4 (by have := HA.out.2.2.2; omega) (by have := HA.out.2.2.2; omega)
      have HN := Lib.hid (And.intro hbA' (And.intro hbB' (And.intro (wrS_wf hsw (o + m) 1 (v / 2 ^ (8 * m))) (And.intro (show devF (wrS s (o + m) 1 (v / 2 ^ (8 * m))) = wrF (devF (fresh k)) o (m + 1) v from by
        rw [← wrF_devF hsw, hsd, wrF_step]) (hU.trans' hU4 (by omega))))))
      clear hbA hbB hsw hsd hU hbB' hbA' hU4
      go_wp2
      exact ⟨⟨m + 1, by omega, by go_num, HN.out.1, _, HN.out.2.1, HN.out.2.2.1, HN.out.2.2.2.1, HN.out.2.2.2.2⟩, by simp [intOf]; omega⟩
    · obtain rfl : m = 4 := by omega
      obtain ⟨hbA, s, hbB, hsw, hsd, hU⟩ := HV.out
      rw [← HdA.out] at hsd
      have HR := Lib.hid (show ∀ (x n : Int), 0 ≤ x → x < 256 → fitsZ x n = true → Calls Try.prog 11 #[.pointer (some ⟨p, 0, none⟩), .int .i64 0, .int .u64 x, .int .i64 n] wr fun e w' => e = .returned (.tuple #[.int .u64 (num (devF (wrS (fresh k) o 4 v)) x.toNat n.toNat), .bool true]) ∧ wr = w' from
        fun x n hx hx1 hf => by have := bus_Read hbA 0 x n hx (by omega); rwa [rd_one _ _ _ hf] at this)
      have HS := Lib.hid (show ∀ (x n : Int), 0 ≤ x → x < 256 → fitsZ x n = true → Calls Try.prog 11 #[.pointer (some ⟨p', 0, none⟩), .int .i64 0, .int .u64 x, .int .i64 n] wr fun e w' => e = .returned (.tuple #[.int .u64 (num (devF (wrS (fresh k) o 4 v)) x.toNat n.toNat), .bool true]) ∧ wr = w' from
        fun x n hx hx1 hf => by have := bus_Read hbB 0 x n hx (by omega); rwa [rd_one _ _ _ hf, hsd] at this)
      have hbd := devF_bd (wrS (fresh k) o 4 v)
      have HU := Lib.hid hU
      clear hbA hbB hsw hsd hU HV
      generalize devF (wrS (fresh k) o 4 v) = f at *
      have HBD := Lib.hid hbd
      clear hbd
      go_wp2
      go_loop [14] (fun i => ∃ m : Nat, m ≤ 64 ∧ i = .int .u64 ((4 * m : Nat) : Int)) (fun i => 256 - (intOf i).toNat)
      case atStart => exact ⟨0, by omega, rfl⟩
      case round =>
        obtain ⟨m, hm, rfl⟩ := hrel
        by_cases hlt : m < 64
        · have hmm : ((4 * m : Nat) : Int) < 256 := by omega
          generalize hx : 4 * m = x at *
          have hx4 : x ≤ 252 := by omega
          have hx5 : (x : Int) % 4 = 0 := by omega
          have HX := Lib.hid hx
          clear hx
          go_wp2_with fail
          refine (HR.out _ 4 (by omega) hmm (fits4' _ hmm hx5)).mono ?_; rintro e w' ⟨rfl, rfl⟩
          go_wp2_with fail
          refine (HS.out _ 4 (by omega) hmm (fits4' _ hmm hx5)).mono ?_; rintro e w' ⟨rfl, rfl⟩
          clear hx5
          rw [show (x : Int).toNat = x from by omega, show (4 : Int).toNat = 4 from rfl]
          go_wp2
          go_loop [19, 20] (fun z i => ∃ j : Nat, j ≤ 4 ∧ i = .int .u64 (j : Int) ∧ z = .int .u64 (num f x j)) (fun _ i => 4 - (intOf i).toNat)
          case atStart => exact ⟨0, by omega, rfl, rfl⟩
          case round =>
            obtain ⟨j, hj, rfl, rfl⟩ := hrel
            by_cases hjl : j < 4
            · have hjj : (j : Int) < 4 := by omega
              have hn0 := num_nonneg HBD.out j x
              have hn1 := num_lt HBD.out j x
              have hb0 := (HBD.out (x + j)).1
              have hb1 := (HBD.out (x + j)).2
              have HN := Lib.hid (num_snoc f j x)
              go_wp2_with fail
              refine (HR.out _ 1 (by omega) (by omega) (fits1 _ (by omega))).mono ?_; rintro e w' ⟨rfl, rfl⟩
              rw [show ((x : Int) + j).toNat = x + j from by omega, show (1 : Int).toNat = 1 from rfl, num1]
              have HO := Lib.hid (or_high (by omega) hn0 hn1 hb0 hb1)
              generalize f (x + j) = y at *
              generalize num f x j = z at *
              clear hn1
              go_wp2
              exact ⟨⟨j + 1, by omega, by go_num, by rw [HN.out, wrap_high (by omega) hb0 hb1, HO.out]⟩, by simp [intOf]; omega⟩
            · obtain rfl : j = 4 := by omega
              generalize num f x 4 = z at *
              go_wp2
              go_round
              case rel => exact ⟨m + 1, by omega, by rw [← HX.out]; go_num⟩
              case measure => simp [intOf]; omega
        · obtain rfl : m = 64 := by omega
          go_wp2_with fail
          refine (awake_calls _).mono ?_; rintro e w5 ⟨rfl, hU5⟩
          go_wp2
          go_ret
          exact ⟨rfl, HU.out.trans hU5⟩
end Go.Proofs.Ytibhialnaibkjaa
