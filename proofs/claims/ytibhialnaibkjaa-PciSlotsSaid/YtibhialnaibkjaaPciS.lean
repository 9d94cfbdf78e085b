import Derived.Test.YtibhialnaibkjaaPciF
namespace Go.Proofs.Ytibhialnaibkjaa
set_option linter.unusedVariables false
open Go.RowKit
set_option maxRecDepth 100000

/-- the kinds of PciSlots -/
def kds (kinds : List Int) (n : Nat) : List Int := (kinds.take n).map (· % 256)
theorem kds_len (kinds : List Int) {n : Nat} (h : n ≤ kinds.length) : (kds kinds n).length = n := by simp [kds]; omega
theorem kds_ok (kinds : List Int) {n : Nat} (h : n ≤ kinds.length) (h8 : n ≤ 8) : okK (kds kinds n) = true := by
  simp only [okK, Bool.and_eq_true, decide_eq_true_eq, List.all_eq_true]
  refine ⟨by rw [kds_len _ h]; exact h8, fun x hx => ?_⟩
  obtain ⟨k, _, rfl⟩ := List.mem_map.1 hx
  omega
theorem kds_get (kinds : List Int) {n j : Nat} (hj : j < n) (h : n ≤ kinds.length) : (kds kinds n)[j]? = some (kinds.getD j 0 % 256) := by
  rw [kds, List.getElem?_map, List.getElem?_take, if_pos hj, List.getElem?_eq_getElem (by omega), List.getD_eq_getElem?_getD, List.getElem?_eq_getElem (by omega)]; rfl
theorem kds_succ (kinds : List Int) {j : Nat} (hj : j < kinds.length) : kds kinds (j + 1) = kds kinds j ++ [kinds.getD j 0 % 256] := by
  rw [kds, kds, List.take_succ_eq_append_getElem hj, List.map_append, List.getD_eq_getElem?_getD, List.getElem?_eq_getElem hj]; rfl
theorem num_id {s : Sl} (h : s.wf) : num (devF s) 0 4 = 6900 + 65536 * (4160 + s.kind) := by
  have h0 : devF s 0 = 244 := by
    unfold devF; repeat rw [put_far (by omega)]
    rw [put_in (by omega)]; decide +kernel
  have h1 : devF s 1 = 26 := by
    unfold devF; repeat rw [put_far (by omega)]
    rw [put_in (by omega)]; decide +kernel
  have h2 : devF s 2 = (4160 + s.kind) % 256 := by
    unfold devF; repeat rw [put_far (by omega)]
    rw [put_in (by omega)]; exact byteOf_zero _
  have h3 : devF s 3 = (4160 + s.kind) / 256 % 256 := by
    unfold devF; repeat rw [put_far (by omega)]
    rw [put_in (by omega)]; exact byteOf1 _
  have e := num4 (devF s) 0
  simp only [Nat.zero_add] at e
  rw [e, h0, h1, h2, h3]
  obtain ⟨⟨a, b⟩, _⟩ := h
  omega
/-- the slots when one has been written -/
def slL (kinds : List Int) (n : Nat) (wh : Int) (o v : Int) : List Sl := if 0 < n then wrL ((kds kinds n).map fresh) wh o 4 v else (kds kinds n).map fresh
theorem slL_len (kinds : List Int) {n : Nat} (h : n ≤ kinds.length) (wh o v : Int) : (slL kinds n wh o v).length = n := by
  unfold slL wrL
  repeat' split
  all_goals simp [kds_len kinds h]
theorem slL_get (kinds : List Int) {n j : Nat} (h : n ≤ kinds.length) (hj : j < n) (wh o v : Int) : ∃ s, (slL kinds n wh o v)[j]? = some s ∧ s.wf ∧ s.kind = kinds.getD j 0 % 256 ∧ ((j : Int) ≠ wh → s.base = 0) := by
  have hf : ((kds kinds n).map fresh)[j]? = some (fresh (kinds.getD j 0 % 256)) := by rw [List.getElem?_map, kds_get kinds hj h]; rfl
  have hw : (fresh (kinds.getD j 0 % 256)).wf := fresh_wf (by omega)
  unfold slL
  rw [if_pos (by omega)]
  unfold wrL
  split
  · cases hat : at_ ((kds kinds n).map fresh) wh with
    | none => exact ⟨_, hf, hw, rfl, fun _ => rfl⟩
    | some s =>
      obtain ⟨h0, h1, h2⟩ := at_some hat
      simp only []
      by_cases e : wh.toNat = j
      · rw [e] at h2 ⊢
        rw [hf] at h2; injection h2 with h2; subst h2
        refine ⟨_, by rw [List.getElem?_set_self]; simp [kds_len kinds h]; exact hj, wrS_wf hw _ _ _, rfl, fun hne => ?_⟩
        omega
      · exact ⟨_, by rw [List.getElem?_set_ne e]; exact hf, hw, rfl, fun _ => rfl⟩
  · exact ⟨_, hf, hw, rfl, fun _ => rfl⟩

set_option maxHeartbeats 2000000 in
theorem slots_calls (A0 : Option Addr) (cap0 : Nat) (kinds : List Int) (wh off v : Int) (w : World)
    (hr0 : Reads w w.heap.size 1 A0 kinds.length (kinds.map (.int .i64))) (hw0 : ∀ z ∈ kinds, -9223372036854775808 ≤ z ∧ z ≤ 9223372036854775807)
    (hm0 : kinds.length ≤ 9223372036854775807) (hh0 : -9223372036854775808 ≤ wh) (hh1 : wh ≤ 9223372036854775807) (ho0 : 0 ≤ off) (ho1 : off < 18446744073709551616) (hv0 : 0 ≤ v) (hv1 : v < 18446744073709551616) :
    Calls Try.prog 5 #[.slice A0 kinds.length cap0, .int .i64 wh, .int .u64 off, .int .u64 v] w fun e w' => e = .returned (.bool true) ∧ Upd (fun _ => False) w w' := by
  obtain ⟨n, hn⟩ : ∃ n, n = min kinds.length 8 := ⟨_, rfl⟩
  have hnl : n ≤ kinds.length := by omega
  have hn8 : n ≤ 8 := by omega
  obtain ⟨ie, hie, hiz, his, hib⟩ := info_parts info_int
  have HR := Lib.hid (And.intro hr0 hw0)
  clear hr0 hw0
  have HN := Lib.hid hn
  clear hn
  go_enter Try.func5, Try.ntmps5
  go_upto_if 24 with fail
  go_cut [9] (fun s9 wx => s9 = .int .i64 (n : Int) ∧ w = wx)
  case first =>
    by_cases hgt : (8 : Int) < kinds.length
    · go_wp2_with fail
      go_meet
      have := HN.out
      exact ⟨congrArg _ (by omega), rfl⟩
    · go_wp2_with fail
      go_meet
      have := HN.out
      exact ⟨congrArg _ (by omega), rfl⟩
  case rest =>
    obtain ⟨rfl, rfl⟩ := hcut
    go_wp2
    go_loopw [10, 11] (fun l i wr => ∃ (m : Nat), m ≤ n ∧ i = .int .i64 (m : Int) ∧ Hid (wr.ownsRow w.heap.size 3 1 l m ((kds kinds m).map (.int .i64)) ∧ Upd (fun _ => False) w wr)) (fun _ i _ => n - (intOf i).toNat)
    case atStart => exact ⟨0, by omega, rfl, World.ownsRow_nil _ _ _ _, Upd.refl _ _⟩
    case round =>
      obtain ⟨m, hm, rfl, HV⟩ := hrel
      by_cases hlt : m < n
      · obtain ⟨hown, hU⟩ := HV.out
        obtain ⟨ad, u, rfl, hadb, hu, hc⟩ := HR.out.1.at_ (show m < kinds.length by omega)
        have hget : kinds[m]? = some (kinds.getD m 0) := by rw [List.getD_eq_getElem?_getD, List.getElem?_eq_getElem (by omega)]; rfl
        have hck : wr.cell? (ad.add m) = some (.int .i64 (kinds.getD m 0)) := by
          rw [hU.cell (by rw [block_of_add]; exact hadb) (fun h => h), hc]
          rw [List.getElem?_map, hget] at hu; exact hu.symm
        have hkb := HR.out.2 _ (List.mem_of_getElem? hget)
        have HK := Lib.hid (kds_succ kinds (show m < kinds.length by omega))
        have hsz := hU.size
        have HH := Lib.hid (And.intro hown hU)
        clear hown hU hu hc hget
        generalize kinds.getD m 0 = kd at *
        go_wp2_with fail
        refine (place_calls kd 256 _ hkb.1 hkb.2 (by omega) (by omega)).mono ?_; rintro e w' ⟨rfl, rfl⟩
        generalize kd % 256 = k2 at *
        go_wp2_with ((with_reducible show wpList _ _ _ ((⟨some 37, _, _, _, _, _⟩ : Oper) :: _) _ _); refine wpList_append_own _ rfl (.tmp 30) (.tmp 36) _ rfl w.heap.size 3 ie _ 1 8 Try.underlying28 hie hiz his hib rfl (by omega) _ _ _ rfl (HH.out.1.alloc _) ⟨wr.heap.size, 0, none⟩ 1 1 [.int .i64 k2] rfl rfl (cell_one_new _ _ _) (by simp [Value.oneCell']) (by unfold maxLen; omega) (by omega) (by simp; omega) ?_)
        intro v' w1 hown1 hg1 _
        have hown2 : w1.ownsRow w.heap.size 3 1 v' (m + 1) ((kds kinds (m + 1)).map (.int .i64)) := by rw [HK.out, List.map_append]; exact hown1
        have hU1 : Upd (fun _ => False) w w1 := (HH.out.2.alloc _).grown hg1 (fun k e => .inr (HH.out.1.lt k e).1)
        have HN1 := Lib.hid (And.intro hown2 hU1)
        clear hown1 hg1 hown2 hU1
        go_wp2
        exact ⟨⟨m + 1, by omega, by go_num, HN1.out⟩, by simp [intOf]; omega⟩
      · obtain rfl : m = n := by omega
        obtain ⟨hown, hU⟩ := HV.out
        have hl := kds_len kinds hnl
        have hok := kds_ok kinds hnl hn8
        obtain ⟨A, cap, rfl⟩ : ∃ A cap, u10 = .slice A m cap := by
          rcases hown.2 with ⟨rfl, h0⟩ | ⟨g, c, cur, rfl, _⟩
          · exact ⟨none, 0, by rw [h0]⟩
          · exact ⟨_, _, rfl⟩
        have hks := Reads.of_own hown
        have hcall := pci_New A cap (kds kinds m) wr (by rw [hl]; exact hks)
        rw [hl] at hcall
        have HC := Lib.hid hcall
        have HU := Lib.hid hU
        have HOK := Lib.hid (And.intro hok hl)
        clear hown hU hks hcall hok hl
        go_wp2_with fail
        refine HC.out.mono ?_
        rintro e w2 ⟨hU2, h⟩
        rcases h with ⟨_, p, q, rfl, hp, hq, hbus⟩ | ⟨h, _⟩
        case inr => rw [HOK.out.1] at h; cases h
        have hpq : w.heap.size ≤ p ∧ w.heap.size ≤ q := by have := HU.out.size; omega
        have HU2 := Lib.hid (HU.out.trans hU2)
        have HRd := Lib.hid ((Reads.of_own HV.out.1).upd hU2 (Nat.le_refl _) (fun _ _ h => h))
        have hqq : wr.heap.size ≤ q := hq
        have hsz2 := hU2.size
        have hsl := bus_Slots hbus
        rw [List.length_map, HOK.out.2] at hsl
        have HSL := Lib.hid hsl
        have HB := Lib.hid hbus
        clear hp hq hbus hU2 hsl
        go_wp2_with fail
        refine HSL.out.mono ?_; rintro e w' ⟨rfl, rfl⟩
        have hfit := fits4 off ho0
        have hob : 0 ≤ off % 64 * 4 ∧ off % 64 * 4 ≤ 252 := by omega
        have HF := Lib.hid hfit
        clear hfit
        go_upto_if 56 with fail
        go_cut [] (fun wx => Hid (BusAt wx p q (slL kinds m (wh % m) (off % 64 * 4) v) ∧ Upd (fun _ => False) w wx ∧ Reads wx wr.heap.size 1 A m ((kds kinds m).map (.int .i64))))
        case first =>
          by_cases h0 : 0 < m
          · have h0' : (0 : Int) < m := by omega
            go_wp2_with fail
            refine (place_calls wh m _ hh0 hh1 h0' (by omega)).mono ?_; rintro e w' ⟨rfl, rfl⟩
            go_wp2_with fail
            refine (bus_Write HB.out (wh % m) (off % 64 * 4) 4 v (by omega) (by omega) hv0 hv1).mono ?_; rintro e w3 ⟨rfl, hb3, hU3⟩
            have HX : Hid (BusAt w3 p q (slL kinds m (wh % m) (off % 64 * 4) v) ∧ Upd (fun _ => False) w w3 ∧ Reads w3 wr.heap.size 1 A m ((kds kinds m).map (.int .i64))) := ⟨by unfold slL; rw [if_pos h0]; exact hb3, HU2.out.trans' hU3 (by omega), HRd.out.upd hU3 hsz2 (by omega)⟩
            clear hb3 hU3
            go_wp2_with fail
            go_meet
            exact HX
          · obtain rfl : m = 0 := by omega
            go_wp2_with fail
            go_meet
            exact ⟨by unfold slL; rw [if_neg (by omega)]; exact HB.out, HU2.out, HRd.out⟩
        case rest =>
          have HC2 := hcut
          clear hcut
          have hlen := slL_len kinds hnl (wh % m) (off % 64 * 4) v
          have HLen := Lib.hid hlen
          clear hlen
          go_wp2
          obtain ⟨wo, rfl⟩ : ∃ wo : World, wo = wr := ⟨_, rfl⟩
          go_loopw [14] (fun i wx => ∃ j : Nat, j ≤ m ∧ i = .int .i64 (j : Int) ∧ Hid (BusAt wx p q (slL kinds m (wh % m) (off % 64 * 4) v) ∧ Upd (fun _ => False) w wx ∧ Reads wx wo.heap.size 1 A m ((kds kinds m).map (.int .i64)))) (fun i _ => m - (intOf i).toNat)
          case atStart => exact ⟨0, by omega, rfl, HC2⟩
          case round =>
            obtain ⟨j, hj, rfl, HV2⟩ := hrel
            by_cases hjm : j < m
            · obtain ⟨hbus, hU, hrd⟩ := HV2.out
              obtain ⟨ad, u, rfl, _, hu, hc⟩ := hrd.at_ hjm
              rw [List.getElem?_map, kds_get kinds hjm hnl] at hu
              obtain rfl : u = .int .i64 (kinds.getD j 0 % 256) := (Option.some.inj hu).symm
              obtain ⟨s, hs, hswf, hsk, hsb⟩ := slL_get kinds hnl hjm (wh % m) (off % 64 * 4) v
              have hx := num_id hswf
              have hy := num_base hswf
              have hr1 := bus_Read hbus (j : Int) 0 4 (by omega) (by omega)
              have hr2 := bus_Read hbus (j : Int) 16 4 (by omega) (by omega)
              have hkd := fun n => bus_Kind (w := wr.drewN n) hbus (j : Int)
              have e1 : rdS (slL kinds m (wh % m) (off % 64 * 4) v) j 0 4 = (num (devF s) 0 4, true) := by
                simp only [rdS, at_lt hs, show fitsZ 0 4 = true from rfl, if_true]; rfl
              have e2 : rdS (slL kinds m (wh % m) (off % 64 * 4) v) j 16 4 = (num (devF s) 16 4, true) := by
                simp only [rdS, at_lt hs, show fitsZ 16 4 = true from rfl, if_true]; rfl
              have e3 : kindL (slL kinds m (wh % m) (off % 64 * 4) v) j = kinds.getD j 0 % 256 := by rw [kindL, at_lt hs]; exact hsk
              rw [e1, hx, hsk] at hr1
              rw [e2, hy] at hr2
              rw [e3] at hkd
              have hk0 : 0 ≤ kinds.getD j 0 % 256 := by omega
              have hk1 : kinds.getD j 0 % 256 < 256 := by omega
              have hb0 := hswf.2.2.1.1
              have hb1 := hswf.2.2.1.2.1
              have HP := Lib.hid (fun n => place_calls wh m (wr.drewN n) hh0 hh1 (by omega) (by omega))
              have HR1 := Lib.hid hr1
              have HR2 := Lib.hid hr2
              have HKd := Lib.hid hkd
              have HSB := Lib.hid hsb
              clear hbus hU hrd hu hs hswf hsk hx hy hr1 hr2 hkd e1 e2 e3 hsb
              generalize kinds.getD j 0 % 256 = kk at *
              generalize s.base = sb at *
              have hor : bits .or .u64 ((4160 + kk) * 65536) 6900 = 6900 + 65536 * (4160 + kk) := by
                rw [u64_or _ _ (by omega) (by omega) (by omega) (by omega), nat_join 16 _ _ (by omega) (by omega)]; omega
              generalize 6900 + 65536 * (4160 + kk) = X at *
              go_wp2_with fail
              refine HR1.out.mono ?_; rintro e w' ⟨rfl, rfl⟩
              go_wp2_with fail
              refine HR2.out.mono ?_; rintro e w' ⟨rfl, rfl⟩
              by_cases hjw : (j : Int) = wh % m
              · have hbn : ((j : Int) != wh % m) = false := by simp [hjw]
                generalize wh % (m : Int) = pw at HP hbn
                clear hjw
                go_wp2_with fail
                go_quiet ((first | (go_at_call 14; exact quiet_left (HKd.out _)) | (go_at_call 9; exact quiet_left (HP.out _))))
                go_wp2
                exact ⟨⟨j + 1, by omega, by go_num, HV2.out.1, HV2.out.2.1.drewN _, HV2.out.2.2⟩, by simp [intOf]; omega⟩
              · obtain rfl : sb = 0 := HSB.out hjw
                have hbn : ((j : Int) != wh % m) = true := by simp [hjw]
                generalize wh % (m : Int) = pw at HP hbn
                clear hjw
                go_wp2_with fail
                go_quiet ((first | (go_at_call 14; exact quiet_left (HKd.out _)) | (go_at_call 9; exact quiet_left (HP.out _))))
                go_wp2
                exact ⟨⟨j + 1, by omega, by go_num, HV2.out.1, HV2.out.2.1.drewN _, HV2.out.2.2⟩, by simp [intOf]; omega⟩
            · obtain rfl : j = m := by omega
              obtain ⟨hbus, hU, _⟩ := HV2.out
              have hat : at_ (slL kinds j (wh % j) (off % 64 * 4) v) j = none := by
                unfold at_; rw [if_neg (by rw [HLen.out]; omega)]
              have hr1 := bus_Read hbus (j : Int) 0 4 (by omega) (by omega)
              have e1 : rdS (slL kinds j (wh % j) (off % 64 * 4) v) j 0 4 = (4294967295, true) := by
                simp only [rdS, hat, show fitsZ 0 4 = true from rfl, if_true]; rfl
              rw [e1] at hr1
              have hw1 := bus_Write hbus (j : Int) 0 4 v (by omega) (by omega) hv0 hv1
              have HR1 := Lib.hid hr1
              have HW1 := Lib.hid hw1
              have HU3 := Lib.hid hU
              clear hbus hU hr1 hw1 hat e1
              go_wp2_with fail
              refine HR1.out.mono ?_; rintro e w' ⟨rfl, rfl⟩
              go_wp2_with fail
              refine HW1.out.mono ?_; rintro e w4 ⟨rfl, _, hU4⟩
              rw [show fitsZ 0 4 = true from rfl]
              have HU4 := Lib.hid (HU3.out.trans' hU4 (by omega))
              clear hU4
              go_wp2_with fail
              refine (awake_calls _).mono ?_; rintro e w5 ⟨rfl, hU5⟩
              go_wp2
              go_ret
              exact ⟨rfl, HU4.out.trans hU5⟩
end Go.Proofs.Ytibhialnaibkjaa
