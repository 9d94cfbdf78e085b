import Derived.Test.YtibhialnaibkjaaPci3
namespace Go.Proofs.Ytibhialnaibkjaa
set_option linter.unusedVariables false
open Go.RowKit
set_option maxRecDepth 100000

theorem place_calls (v n : Int) (w : World) (hv0 : -9223372036854775808 ≤ v) (hv1 : v ≤ 9223372036854775807) (hn : 0 < n) (hn1 : n ≤ 1000000) :
    Calls Try.prog 9 #[.int .i64 v, .int .i64 n] w fun e w' => e = .returned (.int .i64 (v % n)) ∧ w = w' := by
  have hz : (n == 0) = false := by simp; omega
  go_enter Try.func9, Try.ntmps9
  have ht := Int.tmod_eq_emod (a := v) (b := n)
  have h0 := Int.emod_nonneg v (Int.ne_of_gt hn)
  have h1 := Int.emod_lt_of_pos v hn
  have HT := Lib.hid ht
  clear ht
  go_wp2
  · rename_i hlt
    go_ret
    refine ⟨?_, rfl⟩
    have ht := HT.out
    split at ht
    · rw [ht] at hlt; omega
    · rw [show (n.natAbs : Int) = n from by omega] at ht
      show Ending.returned (.int .i64 (wrap64 (v.tmod n + n))) = _
      rw [ht, show v % n - n + n = v % n from by omega, IntWalk.wrap64_in _ (by omega)]
  · rename_i hlt
    go_ret
    refine ⟨?_, rfl⟩
    have ht := HT.out
    split at ht
    · rw [show v.tmod n = v % n from by rw [ht]; simp]; rfl
    · rw [show (n.natAbs : Int) = n from by omega] at ht; omega

/-- a slice of one integer that the caller has just made -/
theorem reads_one (w : World) (k : Int) : Reads (w.alloc (.cells #[.int .i64 k] 3)) (w.alloc (.cells #[.int .i64 k] 3)).heap.size 1 (some ⟨w.heap.size, 0, none⟩) ([k] : List Int).length (([k] : List Int).map (.int .i64)) :=
  ⟨rfl, fun _ => ⟨_, rfl, by simp, fun j u hu => by
    rw [Addr.add_lit, Nat.zero_add, (Blk.new w 3 #[.int .i64 k]).cell]; simpa using hu⟩⟩

theorem awake_calls (w : World) : Calls Try.prog 12 #[] w fun e w' => e = .returned (.bool true) ∧ Upd (fun _ => False) w w' := by
  go_enter Try.func12, Try.ntmps12
  go_wp2_with fail
  refine (pci_New _ _ [2] _ (reads_one w 2)).mono ?_
  rintro e w1 ⟨hU, h⟩
  rcases h with ⟨_, p, q, rfl, hp, hq, hbus⟩ | ⟨h, _⟩
  · have HU := Lib.hid (((Upd.refl (fun _ => False) w).alloc _).trans hU)
    clear hU hp hq
    go_wp2_with fail
    refine (bus_Read hbus 0 0 4 (by omega) (by omega)).mono ?_; rintro e w' ⟨rfl, rfl⟩
    rw [show rdS ([2].map fresh) 0 0 4 = (272767732, true) from by decide +kernel]
    go_wp2
    go_ret
    exact ⟨rfl, HU.out⟩
  · simp [okK] at h

theorem devF_const (s : Sl) : devF s 52 = 64 ∧ devF s 65 = 80 ∧ devF s 81 = 0 ∧ num (devF s) 6 2 = 16 := by
  have a : devF s 6 = 16 := by
    unfold devF; repeat rw [put_far (by omega)]
    rw [put_in (by omega)]; decide +kernel
  have b : devF s 7 = 0 := by
    unfold devF; repeat rw [put_far (by omega)]
    rw [put_in (by omega)]; decide +kernel
  refine ⟨?_, ?_, ?_, by rw [num2, a, b]; rfl⟩
  · unfold devF; repeat rw [put_far (by omega)]
    rw [put_in (by omega)]; decide +kernel
  · unfold devF; repeat rw [put_far (by omega)]
    rw [put_in (by omega)]; decide +kernel
  · unfold devF
    rw [put_in (by omega)]; decide +kernel
theorem num_base {s : Sl} (h : s.wf) : num (devF s) 16 4 = s.base := by
  rw [num_bytes 4 s.base 16 _ (fun k hk => devF_base s k hk)]
  obtain ⟨_, _, ⟨x, y, _⟩, _⟩ := h
  rw [show (256 : Int) ^ 4 = 4294967296 from rfl]; omega
theorem wrS_base (s : Sl) (v : Int) : (wrS s 16 4 v).base = v % 4294967296 / 4096 * 4096 := by
  simp only [wrS]; rw [num_put]; rfl
theorem rd_one (s : Sl) (o n : Int) (h : fitsZ o n = true) : rdS [s] 0 o n = (num (devF s) o.toNat n.toNat, true) := by simp [rdS, h, at_]
theorem wr_one (s : Sl) (o n v : Int) (h : fitsZ o n = true) : wrL [s] 0 o n v = [wrS s o.toNat n.toNat v] := by simp [wrL, h, at_]

theorem sizes_calls (kind v : Int) (w : World) (hk0 : -9223372036854775808 ≤ kind) (hk1 : kind ≤ 9223372036854775807) (hv0 : 0 ≤ v) (hv1 : v < 18446744073709551616) :
    Calls Try.prog 3 #[.int .i64 kind, .int .u64 v] w fun e w' => e = .returned (.bool true) ∧ Upd (fun _ => False) w w' := by
  go_enter Try.func3, Try.ntmps3
  go_wp2_with fail
  refine (place_calls kind 256 _ hk0 hk1 (by omega) (by omega)).mono ?_; rintro e w0 ⟨rfl, rfl⟩
  have h0 := Int.emod_nonneg kind (show (256 : Int) ≠ 0 from by decide)
  have h1 := Int.emod_lt_of_pos kind (show (0 : Int) < 256 from by decide)
  generalize kind % 256 = k at *
  go_wp2_with fail
  refine (pci_New _ _ [k] _ (reads_one w k)).mono ?_
  rintro e w1 ⟨hU, h⟩
  have hok : okK [k] = true := by simp [okK]; omega
  rcases h with ⟨_, p, q, rfl, hp, hq, hbus⟩ | ⟨h, _⟩
  · have HU := Lib.hid (((Upd.refl (fun _ => False) w).alloc _).trans hU)
    have hq' : w.heap.size ≤ q := by simp at hq; omega
    have hwf : (fresh k).wf := fresh_wf ⟨h0, by omega⟩
    clear hU hp hq hok
    rw [show [k].map fresh = [fresh k] from rfl] at hbus
    go_wp2_with fail
    refine (bus_Write hbus 0 16 4 4294967295 (by omega) (by omega) (by omega) (by omega)).mono ?_; rintro e w2 ⟨rfl, hbus2, hU2⟩
    clear hbus
    rw [show fitsZ 16 4 = true from rfl]
    rw [wr_one _ _ _ _ (by rfl)] at hbus2
    go_wp2_with fail
    refine (bus_Read hbus2 0 16 4 (by omega) (by omega)).mono ?_; rintro e w' ⟨rfl, rfl⟩
    have hwf2 := wrS_wf hwf 16 4 4294967295
    rw [rd_one _ _ _ (by rfl), show (16 : Int).toNat = 16 from rfl, show (4 : Int).toNat = 4 from rfl, num_base hwf2, wrS_base, show (4294967295 : Int) % 4294967296 / 4096 * 4096 = 4294963200 from by decide]
    have HWF := Lib.hid hwf2
    clear hwf hwf2
    go_wp2_with fail
    refine (bus_Write hbus2 0 16 4 v (by omega) (by omega) hv0 hv1).mono ?_; rintro e w3 ⟨rfl, hbus3, hU3⟩
    clear hbus2
    rw [show fitsZ 16 4 = true from rfl]
    rw [wr_one _ _ _ _ (by rfl)] at hbus3
    generalize hs : wrS (wrS (fresh k) (16 : Int).toNat (4 : Int).toNat 4294967295) (16 : Int).toNat (4 : Int).toNat v = s at hbus3
    have hb : num (devF s) 16 4 = v % 4294967296 / 4096 * 4096 := by rw [← hs]; exact (num_base (wrS_wf HWF.out _ _ _)).trans (wrS_base _ _)
    obtain ⟨c1, c2, c3, c4⟩ := devF_const s
    clear hs
    have HB := Lib.hid hb
    have H1 := Lib.hid c1
    have H2 := Lib.hid c2
    have H3 := Lib.hid c3
    have H4 := Lib.hid c4
    clear hb c1 c2 c3 c4
    go_wp2_with fail
    refine (bus_Read hbus3 0 16 4 (by omega) (by omega)).mono ?_; rintro e w' ⟨rfl, rfl⟩
    rw [rd_one _ _ _ (by rfl), show (16 : Int).toNat = 16 from rfl, show (4 : Int).toNat = 4 from rfl, HB.out]
    go_wp2_with fail
    refine (bus_Read hbus3 0 52 1 (by omega) (by omega)).mono ?_; rintro e w' ⟨rfl, rfl⟩
    rw [rd_one _ _ _ (by rfl), show (52 : Int).toNat = 52 from rfl, show (1 : Int).toNat = 1 from rfl, num1, H1.out]
    go_wp2_with fail
    refine (bus_Read hbus3 0 65 1 (by omega) (by omega)).mono ?_; rintro e w' ⟨rfl, rfl⟩
    rw [rd_one _ _ _ (by rfl), show (65 : Int).toNat = 65 from rfl, show (1 : Int).toNat = 1 from rfl, num1, H2.out]
    go_wp2_with fail
    refine (bus_Read hbus3 0 81 1 (by omega) (by omega)).mono ?_; rintro e w' ⟨rfl, rfl⟩
    rw [rd_one _ _ _ (by rfl), show (81 : Int).toNat = 81 from rfl, show (1 : Int).toNat = 1 from rfl, num1, H3.out]
    go_wp2_with fail
    refine (bus_Read hbus3 0 6 2 (by omega) (by omega)).mono ?_; rintro e w' ⟨rfl, rfl⟩
    rw [rd_one _ _ _ (by rfl), show (6 : Int).toNat = 6 from rfl, show (2 : Int).toNat = 2 from rfl, H4.out]
    go_wp2_with fail
    refine (awake_calls _).mono ?_; rintro e w4 ⟨rfl, hU4⟩
    go_wp2
    go_ret
    exact ⟨rfl, ((HU.out.trans' hU2 (by omega)).trans' hU3 (by omega)).trans hU4⟩
  · rw [hok] at h; cases h
end Go.Proofs.Ytibhialnaibkjaa
