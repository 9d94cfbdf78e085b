import Derived.Test.YtibhialnaibkjaaPciR5
import Derived.Test.YtibhialnaibkjaaApp
import Derived.Test.YtibhialnaibkjaaPciF
namespace Go.Proofs.Ytibhialnaibkjaa
set_option linter.unusedVariables false
open Go.RowKit
set_option maxRecDepth 100000

/-- where a slice that holds something starts -/
theorem Reads.start {w : World} {B size n : Nat} {A : Option Addr} {xs : List Value} (h : Reads w B size A n xs) (hn : 0 < n) (hs : 0 < size) : ∃ b o, A = some ⟨b, o, none⟩ ∧ b < B ∧ ∀ j u, xs[j]? = some u → w.cell? ⟨b, o + j, none⟩ = some u := by
  obtain ⟨ad, rfl, hb, hc⟩ := h.2 hn
  have hl : 0 < xs.length := by rw [h.1]; exact Nat.mul_pos hn hs
  have h0 := hc 0 _ (List.getElem?_eq_getElem hl)
  obtain ⟨b, o, sp⟩ := ad
  cases sp with
  | some k =>
    simp only [Addr.add, if_true] at h0
    unfold World.cell? at h0
    split at h0 <;> simp at h0
  | none =>
    refine ⟨b, o, rfl, hb, fun j u hu => ?_⟩
    have := hc j u hu
    rwa [Addr.add_lit] at this

/-- the cells of a script's op -/
def OpIn (xs : List Value) (i : Nat) (k s z o v : Int) : Prop :=
  xs[i * 5]? = some (.int .i64 k) ∧ xs[i * 5 + 1]? = some (.int .i64 s) ∧ xs[i * 5 + 2]? = some (.int .i64 z) ∧ xs[i * 5 + 3]? = some (.int .u64 o) ∧ xs[i * 5 + 4]? = some (.int .u64 v)
def wfI (x : Int) : Prop := -9223372036854775808 ≤ x ∧ x ≤ 9223372036854775807
def wfU (x : Int) : Prop := 0 ≤ x ∧ x < 18446744073709551616

theorem wrL_len (L : List Sl) (s o z v : Int) : (wrL L s o z v).length = L.length := by
  unfold wrL
  repeat' split
  all_goals simp

/-- both buses, in the same state -/
def Both (w0 w : World) (p q p' q' : Nat) (L : List Sl) : Prop :=
  BusAt w p q L ∧ RefAt w p' q' L ∧ Upd (fun _ => False) w0 w ∧ (w0.heap.size ≤ p ∧ w0.heap.size ≤ q ∧ w0.heap.size ≤ p' ∧ w0.heap.size ≤ q') ∧ (q ≠ p' ∧ q ≠ q' ∧ p ≠ q') ∧ L.length ≤ 8 ∧ q < w.heap.size ∧ q' < w.heap.size
theorem Both.new {w0 w w' : World} {p q p' q' : Nat} {L : List Sl} (h : Both w0 w p q p' q' L) (hU : Upd (fun _ => False) w w') : Both w0 w' p q p' q' L := by
  obtain ⟨h1, h2, h3, h4, h5, h6, h7, h8⟩ := h
  have := hU.size
  exact ⟨h1.upd hU (fun h => h) (fun h => h), h2.upd hU (fun h => h) (fun h => h), h3.trans hU, h4, h5, h6, by omega, by omega⟩
theorem Both.wrA {w0 w w' : World} {p q p' q' : Nat} {L L' : List Sl} (h : Both w0 w p q p' q' L) (hb : BusAt w' p q L') (hU : Upd (· = q) w w') : BusAt w' p q L' ∧ RefAt w' p' q' L ∧ Upd (fun _ => False) w0 w' := by
  obtain ⟨h1, h2, h3, h4, h5, h6⟩ := h
  exact ⟨hb, h2.upd hU (fun e => h5.1 e.symm) (fun e => h5.2.1 e.symm), h3.trans' hU (fun i hi e => by omega)⟩
theorem Both.wrB {w0 w w1 w' : World} {p q p' q' : Nat} {L L' : List Sl} (h : Both w0 w p q p' q' L) (hb : BusAt w1 p q L') (hw : Upd (fun _ => False) w0 w1) (hr : RefAt w' p' q' L') (hU : Upd (· = q') w1 w') (hl : L'.length ≤ 8) (hs : w.heap.size ≤ w'.heap.size) : Both w0 w' p q p' q' L' := by
  obtain ⟨h1, h2, h3, h4, h5, h6⟩ := h
  exact ⟨hb.upd hU (fun e => h5.2.2 e) (fun e => h5.2.1 e), hr, hw.trans' hU (fun i hi e => by omega), h4, h5, hl, by omega, by omega⟩

set_option maxHeartbeats 4000000 in
theorem plays_calls (A0 A1 : Option Addr) (cap0 cap1 : Nat) (kinds : List Int) (m : Nat) (xs : List Value) (w : World)
    (hr0 : Reads w w.heap.size 1 A0 kinds.length (kinds.map (.int .i64))) (hm0 : kinds.length * 8 ≤ 140737488351232) (hr1 : Reads w w.heap.size 5 A1 m xs) (hm1 : m ≤ 9223372036854775807)
    (hx : ∀ i, i < m → ∃ k s z o v, OpIn xs i k s z o v ∧ wfI k ∧ wfI s ∧ wfI z ∧ wfU o ∧ wfU v) :
    Calls Try.prog 7 #[.slice A0 kinds.length cap0, .slice A1 m cap1] w fun e w' => e = .returned (.bool true) ∧ Upd (fun _ => False) w w' := by
  obtain ⟨ie, hie, hiz, his, hib⟩ := info_parts info_int
  have HR := Lib.hid (And.intro hr0 (And.intro hr1 hx))
  clear hr0 hr1 hx
  go_enter Try.func7, Try.ntmps7
  go_wp2_with ((with_reducible show wpList _ _ _ ((⟨some 34, _, _, _, _, _⟩ : Oper) :: _) _ _); refine wpList_append_any _ rfl (.const (.slice none 0 0)) (.tmp 33) _ rfl w.heap.size 3 ie _ 1 8 Try.underlying28 hie hiz his hib rfl (by omega) (.slice none 0 0) 0 [] rfl (World.ownsRow_nil _ _ _ _) w.heap.size A0 kinds.length cap0 (kinds.map (.int .i64)) rfl HR.out.1 (by intro u hu; obtain ⟨z, _, rfl⟩ := List.mem_map.1 hu; rfl) (by simp only [maxLen]; omega) (by omega) (Nat.le_refl _) ?_)
  intro v1 w1 hown1 hg1 hat1
  (try simp only [Nat.zero_add, List.nil_append] at hown1)
  obtain ⟨A2, cap2, rfl⟩ : ∃ A c, v1 = .slice A kinds.length c := by
    rcases hown1.2 with ⟨rfl, h0⟩ | ⟨g, c, cur, rfl, _⟩
    · exact ⟨none, 0, by rw [h0]⟩
    · exact ⟨_, _, rfl⟩
  have hU1 : Upd (fun _ => False) w w1 := (Upd.refl _ _).grown hg1 (fun k e => by cases e)
  have HN := Lib.hid (pci_New A2 cap2 kinds w1 (Reads.of_own hown1))
  have HU1 := Lib.hid hU1
  clear hown1 hg1 hat1 hU1
  go_wp2_with fail
  refine HN.out.mono ?_; rintro e w2 ⟨hU2, h⟩
  have hrd := HR.out.1.upd (HU1.out.trans hU2) (Nat.le_refl _) (fun _ _ h => h)
  have hsz := (HU1.out.trans hU2).size
  rcases h with ⟨hok, p, q, rfl, hp, hq, hbus⟩ | ⟨hok, rfl⟩
  · have HNR := Lib.hid (ref_New A0 cap0 kinds w2 (hrd.more hsz))
    have HU2 := Lib.hid (And.intro (HU1.out.trans hU2) (And.intro hbus (And.intro hp hq)))
    have hk8 := (okK_all hok).1
    have hsz1 := HU1.out.size
    clear hU2 hrd hp hq hbus
    go_wp2_with fail
    refine HNR.out.mono ?_; rintro e w3 ⟨hU3, h⟩
    rcases h with ⟨_, p', q', rfl, hp', hq', href⟩ | ⟨h, _⟩
    case inr => rw [hok] at h; cases h
    obtain ⟨hU12, hbus, hp, hq⟩ := HU2.out
    have hpl := hbus.ltp
    have hboth : Both w w3 p q p' q' (kinds.map fresh) := by
      refine ⟨hbus.upd hU3 (fun h => h) (fun h => h), href, hU12.trans hU3, ⟨by omega, by omega, by omega, by omega⟩, ⟨by omega, by omega, by omega⟩, by simpa using hk8, by have := hU3.size; omega, hq'.2⟩
    have HB := Lib.hid (And.intro hboth (show (kinds.map fresh).length = kinds.length by simp))
    clear hU12 hbus hp hq hpl hboth hU3 hp' hq' href hsz hsz1
    go_wp2
    go_loopw [9] (fun i wr => ∃ (k : Nat) (L : List Sl), k ≤ m ∧ i = .int .i64 (k : Int) ∧ Hid (Both w wr p q p' q' L ∧ L.length = kinds.length)) (fun i _ => m - (intOf i).toNat)
    case atStart => exact ⟨0, _, by omega, rfl, HB.out⟩
    case round =>
      obtain ⟨k, L, hk, rfl, HV⟩ := hrel
      by_cases hlt : k < m
      · obtain ⟨b, o, rfl, hbw, hcs⟩ := HR.out.2.1.start (by omega) (by omega)
        obtain ⟨kd, s, z, of, v, ⟨x0, x1, x2, x3, x4⟩, hkd, hs, hz, hof, hv⟩ := HR.out.2.2 k hlt
        have cellOf : ∀ j u, xs[j]? = some u → wr.cell? ⟨b, o + j, none⟩ = some u := fun j u hu => (HV.out.1.2.2.1.cell hbw (fun h => h)).trans (hcs j u hu)
        have c0 := cellOf _ _ x0
        have c1 := cellOf _ _ x1
        have c2 := cellOf _ _ x2
        have c3 := cellOf _ _ x3
        have c4 := cellOf _ _ x4
        simp only [← Nat.add_assoc] at c1 c2 c3 c4
        clear x0 x1 x2 x3 x4 hcs cellOf
        obtain ⟨hkd0, hkd1⟩ := hkd
        obtain ⟨hs0, hs1⟩ := hs
        obtain ⟨hz0, hz1⟩ := hz
        obtain ⟨ho0, ho1⟩ := hof
        obtain ⟨hv0, hv1⟩ := hv
        have hW := HV.out.1.new (((Upd.refl (fun _ => False) wr).alloc (.cells #[.int .i64 kd, .int .i64 s, .int .i64 z, .int .u64 of, .int .u64 v] 49)))
        have hxb := Blk.new wr 49 #[.int .i64 kd, .int .i64 s, .int .i64 z, .int .u64 of, .int .u64 v]
        obtain ⟨ad', cap', hrc⟩ := hW.2.1.head
        have HX := Lib.hid (And.intro hW hxb)
        have H1 := Lib.hid (fun n => bus_Slots (w := (wr.alloc (.cells #[.int .i64 kd, .int .i64 s, .int .i64 z, .int .u64 of, .int .u64 v] 49)).drewN n) hW.1)
        have H2 := Lib.hid (fun n => bus_Kind (w := (wr.alloc (.cells #[.int .i64 kd, .int .i64 s, .int .i64 z, .int .u64 of, .int .u64 v] 49)).drewN n) hW.1 s)
        have H3 := Lib.hid (fun n => ref_Kind (w := (wr.alloc (.cells #[.int .i64 kd, .int .i64 s, .int .i64 z, .int .u64 of, .int .u64 v] 49)).drewN n) hW.2.1 s)
        have hll := HV.out.2
        have HLL := Lib.hid hll
        clear hW hxb hll
        go_wp2
        go_quiet ((first | (go_at_call 13; exact quiet_left (H1.out _)) | (go_at_call 14; exact quiet_left (H2.out _)) | (go_at_call 17; exact quiet_left (H3.out _))))
        go_wp2_with fail
        refine (place_calls kd 4 _ hkd0 hkd1 (by omega) (by omega)).mono ?_; rintro e wz ⟨rfl, rfl⟩
        have hp0 := Int.emod_nonneg kd (show (4 : Int) ≠ 0 from by decide)
        have hp1 := Int.emod_lt_of_pos kd (show (0 : Int) < 4 from by decide)
        generalize kd % 4 = pv at *
        have hXW : Both w ((wr.alloc (.cells #[.int .i64 kd, .int .i64 s, .int .i64 z, .int .u64 of, .int .u64 v] 49)).drewN nq) p q p' q' L ∧ Blk ((wr.alloc (.cells #[.int .i64 kd, .int .i64 s, .int .i64 z, .int .u64 of, .int .u64 v] 49)).drewN nq) wr.heap.size 49 #[.int .i64 kd, .int .i64 s, .int .i64 z, .int .u64 of, .int .u64 v] := ⟨HX.out.1.new ((Upd.refl _ _).drewN _), HX.out.2⟩
        clear HX H1 H2 H3 hrc c0 c1 c2 c3 c4
        generalize (wr.alloc (.cells #[.int .i64 kd, .int .i64 s, .int .i64 z, .int .u64 of, .int .u64 v] 49)).drewN nq = W at *
        have hxq : q < wr.heap.size ∧ q' < wr.heap.size := HV.out.1.2.2.2.2.2.2
        generalize wr.heap.size = xb at *
        obtain ⟨hBW, hxb⟩ := hXW
        have c1 : W.cell? ⟨xb, 1, none⟩ = some (.int .i64 s) := hxb.cell 1
        have c2 : W.cell? ⟨xb, 2, none⟩ = some (.int .i64 z) := hxb.cell 2
        have c3 : W.cell? ⟨xb, 3, none⟩ = some (.int .u64 of) := hxb.cell 3
        have c4 : W.cell? ⟨xb, 4, none⟩ = some (.int .u64 v) := hxb.cell 4
        have HXW := Lib.hid (And.intro hBW hxb)
        clear hBW hxb
        go_upto_block 2 with fail
        go_cut [11] (fun s11 wx => s11 = .bool true ∧ Hid (∃ L', Both w wx p q p' q' L' ∧ L'.length = kinds.length ∧ wx.cell? ⟨xb, 1, none⟩ = some (.int .i64 s)))
        case first =>
          have hpv : pv = 0 ∨ pv = 1 ∨ pv = 2 ∨ pv = 3 := by omega
          rcases hpv with rfl | rfl | rfl | rfl
          · have HA := Lib.hid (bus_Read HXW.out.1.1 s of z ho0 ho1)
            have HA2 := Lib.hid (ref_Read HXW.out.1.2.1 s of z ho0 ho1)
            generalize rdS L s of z = r at *
            obtain ⟨r1, r2⟩ := r
            simp only [] at HA HA2
            go_wp2_with fail
            refine HA.out.mono ?_; rintro e w' ⟨rfl, rfl⟩
            go_wp2_with fail
            refine HA2.out.mono ?_; rintro e wb ⟨rfl, hUb⟩
            have HZ := Lib.hid (And.intro (HXW.out.1.new hUb) ((hUb.cell (p := ⟨xb, 1, none⟩) HXW.out.2.lt (fun h => h)).trans c1))
            clear hUb
            go_wp2_with fail
            go_meet
            exact ⟨by simp, L, HZ.out.1, HLL.out, HZ.out.2⟩
          · have HA := Lib.hid (fun W' (hW : BusAt W' p q L) => bus_Write hW s of z v ho0 ho1 hv0 hv1)
            have HA2 := Lib.hid (fun W' (hW : RefAt W' p' q' L) => ref_Write hW s of z v ho0 ho1 hv0 hv1)
            have HL' := Lib.hid (wrL_len L s of z v)
            generalize wrL L s of z v = L2 at *
            generalize fitsZ of z = fz at *
            have hxl := HXW.out.2.lt
            go_wp2_with fail
            refine wpE_region (S := fun (W' : World) => W'.cell? ⟨xb, 1, none⟩ = some (.int .i64 s) ∧ W'.cell? ⟨xb, 2, none⟩ = some (.int .i64 z) ∧ W'.cell? ⟨xb, 3, none⟩ = some (.int .u64 of) ∧ W'.cell? ⟨xb, 4, none⟩ = some (.int .u64 v)) (s := 24) (by kernel_rfl) ?_
            have hS : (fun (W' : World) => W'.cell? ⟨xb, 1, none⟩ = some (.int .i64 s) ∧ W'.cell? ⟨xb, 2, none⟩ = some (.int .i64 z) ∧ W'.cell? ⟨xb, 3, none⟩ = some (.int .u64 of) ∧ W'.cell? ⟨xb, 4, none⟩ = some (.int .u64 v)) _ := ⟨c1, c2, c3, c4⟩
            refine wpE_take (i := 0) (oi := { dst := some 125, op := Go.Op.move (Go.Operand.tmp 11), type := 4, pos := "law.go:46", after := #[], guard := none }) (v := ?_) rfl (by kernel_rfl) (fun _ _ _ h => h) (Or.inl ⟨by rfl, fun W hW => ?_⟩) hS ?_
            rotate_left
            · obtain ⟨hw1, hw2, hw3, hw4⟩ := hW; go_simp; (try go_bits); (try rw [if_pos (by omega)]); (try with_reducible rfl)
            (try simp only [Act.put, List.setIfInBounds_toArray, List.set_cons_succ, List.set_cons_zero])
            refine wpE_take (i := 1) (oi := { dst := some 126, op := Go.Op.move (Go.Operand.tmp 125), type := 4, pos := "law.go:46", after := #[{ on := 0, ground := Go.Ground.data }], guard := none }) (v := ?_) rfl (by kernel_rfl) (fun _ _ _ h => h) (Or.inl ⟨by rfl, fun W hW => ?_⟩) hS ?_
            rotate_left
            · obtain ⟨hw1, hw2, hw3, hw4⟩ := hW; go_simp; (try go_bits); (try rw [if_pos (by omega)]); (try with_reducible rfl)
            (try simp only [Act.put, List.setIfInBounds_toArray, List.set_cons_succ, List.set_cons_zero])
            refine wpE_take (i := 2) (oi := { dst := some 127, op := Go.Op.move (Go.Operand.tmp 5), type := 23, pos := "law.go:46", after := #[{ on := 1, ground := Go.Ground.guard }], guard := some (1, true) }) (v := ?_) rfl (by kernel_rfl) (fun _ _ _ h => h) (Or.inl ⟨by rfl, fun W hW => ?_⟩) hS ?_
            rotate_left
            · obtain ⟨hw1, hw2, hw3, hw4⟩ := hW; go_simp; (try go_bits); (try rw [if_pos (by omega)]); (try with_reducible rfl)
            (try simp only [Act.put, List.setIfInBounds_toArray, List.set_cons_succ, List.set_cons_zero])
            refine wpE_take (i := 3) (oi := { dst := some 128, op := Go.Op.fieldAddr 49 (Go.Operand.tmp 10) 1, type := 0, pos := "law.go:46", after := #[{ on := 1, ground := Go.Ground.guard }], guard := some (1, true) }) (v := ?_) rfl (by kernel_rfl) (fun _ _ _ h => h) (Or.inl ⟨by rfl, fun W hW => ?_⟩) hS ?_
            rotate_left
            · obtain ⟨hw1, hw2, hw3, hw4⟩ := hW; go_simp; (try go_bits); (try rw [if_pos (by omega)]); (try with_reducible rfl)
            (try simp only [Act.put, List.setIfInBounds_toArray, List.set_cons_succ, List.set_cons_zero])
            refine wpE_take (i := 4) (oi := { dst := some 129, op := Go.Op.load 3 (Go.Operand.tmp 128), type := 3, pos := "law.go:46", after := #[{ on := 3, ground := Go.Ground.data }, { on := 1, ground := Go.Ground.guard }], guard := some (1, true) }) (v := ?_) rfl (by kernel_rfl) (fun _ _ _ h => h) (Or.inl ⟨by rfl, fun W hW => ?_⟩) hS ?_
            rotate_left
            · obtain ⟨hw1, hw2, hw3, hw4⟩ := hW; go_simp; (try go_bits); (try rw [if_pos (by omega)]); (try with_reducible rfl)
            (try simp only [Act.put, List.setIfInBounds_toArray, List.set_cons_succ, List.set_cons_zero])
            refine wpE_take (i := 5) (oi := { dst := some 130, op := Go.Op.fieldAddr 49 (Go.Operand.tmp 10) 3, type := 0, pos := "law.go:46", after := #[{ on := 1, ground := Go.Ground.guard }], guard := some (1, true) }) (v := ?_) rfl (by kernel_rfl) (fun _ _ _ h => h) (Or.inl ⟨by rfl, fun W hW => ?_⟩) hS ?_
            rotate_left
            · obtain ⟨hw1, hw2, hw3, hw4⟩ := hW; go_simp; (try go_bits); (try rw [if_pos (by omega)]); (try with_reducible rfl)
            (try simp only [Act.put, List.setIfInBounds_toArray, List.set_cons_succ, List.set_cons_zero])
            refine wpE_take (i := 6) (oi := { dst := some 131, op := Go.Op.load 22 (Go.Operand.tmp 130), type := 22, pos := "law.go:46", after := #[{ on := 5, ground := Go.Ground.data }, { on := 1, ground := Go.Ground.guard }], guard := some (1, true) }) (v := ?_) rfl (by kernel_rfl) (fun _ _ _ h => h) (Or.inl ⟨by rfl, fun W hW => ?_⟩) hS ?_
            rotate_left
            · obtain ⟨hw1, hw2, hw3, hw4⟩ := hW; go_simp; (try go_bits); (try rw [if_pos (by omega)]); (try with_reducible rfl)
            (try simp only [Act.put, List.setIfInBounds_toArray, List.set_cons_succ, List.set_cons_zero])
            refine wpE_take (i := 7) (oi := { dst := some 132, op := Go.Op.fieldAddr 49 (Go.Operand.tmp 10) 2, type := 0, pos := "law.go:46", after := #[{ on := 1, ground := Go.Ground.guard }], guard := some (1, true) }) (v := ?_) rfl (by kernel_rfl) (fun _ _ _ h => h) (Or.inl ⟨by rfl, fun W hW => ?_⟩) hS ?_
            rotate_left
            · obtain ⟨hw1, hw2, hw3, hw4⟩ := hW; go_simp; (try go_bits); (try rw [if_pos (by omega)]); (try with_reducible rfl)
            (try simp only [Act.put, List.setIfInBounds_toArray, List.set_cons_succ, List.set_cons_zero])
            refine wpE_take (i := 8) (oi := { dst := some 133, op := Go.Op.load 3 (Go.Operand.tmp 132), type := 3, pos := "law.go:46", after := #[{ on := 7, ground := Go.Ground.data }, { on := 1, ground := Go.Ground.guard }], guard := some (1, true) }) (v := ?_) rfl (by kernel_rfl) (fun _ _ _ h => h) (Or.inl ⟨by rfl, fun W hW => ?_⟩) hS ?_
            rotate_left
            · obtain ⟨hw1, hw2, hw3, hw4⟩ := hW; go_simp; (try go_bits); (try rw [if_pos (by omega)]); (try with_reducible rfl)
            (try simp only [Act.put, List.setIfInBounds_toArray, List.set_cons_succ, List.set_cons_zero])
            refine wpE_take (i := 9) (oi := { dst := some 134, op := Go.Op.fieldAddr 49 (Go.Operand.tmp 10) 4, type := 0, pos := "law.go:46", after := #[{ on := 1, ground := Go.Ground.guard }], guard := some (1, true) }) (v := ?_) rfl (by kernel_rfl) (fun _ _ _ h => h) (Or.inl ⟨by rfl, fun W hW => ?_⟩) hS ?_
            rotate_left
            · obtain ⟨hw1, hw2, hw3, hw4⟩ := hW; go_simp; (try go_bits); (try rw [if_pos (by omega)]); (try with_reducible rfl)
            (try simp only [Act.put, List.setIfInBounds_toArray, List.set_cons_succ, List.set_cons_zero])
            refine wpE_take (i := 10) (oi := { dst := some 135, op := Go.Op.load 22 (Go.Operand.tmp 134), type := 22, pos := "law.go:46", after := #[{ on := 9, ground := Go.Ground.data }, { on := 1, ground := Go.Ground.guard }], guard := some (1, true) }) (v := ?_) rfl (by kernel_rfl) (fun _ _ _ h => h) (Or.inl ⟨by rfl, fun W hW => ?_⟩) hS ?_
            rotate_left
            · obtain ⟨hw1, hw2, hw3, hw4⟩ := hW; go_simp; (try go_bits); (try rw [if_pos (by omega)]); (try with_reducible rfl)
            (try simp only [Act.put, List.setIfInBounds_toArray, List.set_cons_succ, List.set_cons_zero])
            refine wpE_take (i := 12) (oi := { dst := some 137, op := Go.Op.move (Go.Operand.tmp 7), type := 45, pos := "law.go:46", after := #[{ on := 1, ground := Go.Ground.guard }], guard := some (1, true) }) (v := ?_) rfl (by kernel_rfl) (fun _ _ _ h => h) (Or.inl ⟨by rfl, fun W hW => ?_⟩) hS ?_
            rotate_left
            · obtain ⟨hw1, hw2, hw3, hw4⟩ := hW; go_simp; (try go_bits); (try rw [if_pos (by omega)]); (try with_reducible rfl)
            (try simp only [Act.put, List.setIfInBounds_toArray, List.set_cons_succ, List.set_cons_zero])
            refine wpE_take (i := 13) (oi := { dst := some 138, op := Go.Op.fieldAddr 49 (Go.Operand.tmp 10) 1, type := 0, pos := "law.go:46", after := #[{ on := 1, ground := Go.Ground.guard }], guard := some (1, true) }) (v := ?_) rfl (by kernel_rfl) (fun _ _ _ h => h) (Or.inl ⟨by rfl, fun W hW => ?_⟩) hS ?_
            rotate_left
            · obtain ⟨hw1, hw2, hw3, hw4⟩ := hW; go_simp; (try go_bits); (try rw [if_pos (by omega)]); (try with_reducible rfl)
            (try simp only [Act.put, List.setIfInBounds_toArray, List.set_cons_succ, List.set_cons_zero])
            refine wpE_take (i := 14) (oi := { dst := some 139, op := Go.Op.load 3 (Go.Operand.tmp 138), type := 3, pos := "law.go:46", after := #[{ on := 13, ground := Go.Ground.data }, { on := 1, ground := Go.Ground.guard }], guard := some (1, true) }) (v := ?_) rfl (by kernel_rfl) (fun _ _ _ h => h) (Or.inl ⟨by rfl, fun W hW => ?_⟩) hS ?_
            rotate_left
            · obtain ⟨hw1, hw2, hw3, hw4⟩ := hW; go_simp; (try go_bits); (try rw [if_pos (by omega)]); (try with_reducible rfl)
            (try simp only [Act.put, List.setIfInBounds_toArray, List.set_cons_succ, List.set_cons_zero])
            refine wpE_take (i := 15) (oi := { dst := some 140, op := Go.Op.fieldAddr 49 (Go.Operand.tmp 10) 3, type := 0, pos := "law.go:46", after := #[{ on := 1, ground := Go.Ground.guard }], guard := some (1, true) }) (v := ?_) rfl (by kernel_rfl) (fun _ _ _ h => h) (Or.inl ⟨by rfl, fun W hW => ?_⟩) hS ?_
            rotate_left
            · obtain ⟨hw1, hw2, hw3, hw4⟩ := hW; go_simp; (try go_bits); (try rw [if_pos (by omega)]); (try with_reducible rfl)
            (try simp only [Act.put, List.setIfInBounds_toArray, List.set_cons_succ, List.set_cons_zero])
            refine wpE_take (i := 16) (oi := { dst := some 141, op := Go.Op.load 22 (Go.Operand.tmp 140), type := 22, pos := "law.go:46", after := #[{ on := 15, ground := Go.Ground.data }, { on := 1, ground := Go.Ground.guard }], guard := some (1, true) }) (v := ?_) rfl (by kernel_rfl) (fun _ _ _ h => h) (Or.inl ⟨by rfl, fun W hW => ?_⟩) hS ?_
            rotate_left
            · obtain ⟨hw1, hw2, hw3, hw4⟩ := hW; go_simp; (try go_bits); (try rw [if_pos (by omega)]); (try with_reducible rfl)
            (try simp only [Act.put, List.setIfInBounds_toArray, List.set_cons_succ, List.set_cons_zero])
            refine wpE_take (i := 17) (oi := { dst := some 142, op := Go.Op.fieldAddr 49 (Go.Operand.tmp 10) 2, type := 0, pos := "law.go:46", after := #[{ on := 1, ground := Go.Ground.guard }], guard := some (1, true) }) (v := ?_) rfl (by kernel_rfl) (fun _ _ _ h => h) (Or.inl ⟨by rfl, fun W hW => ?_⟩) hS ?_
            rotate_left
            · obtain ⟨hw1, hw2, hw3, hw4⟩ := hW; go_simp; (try go_bits); (try rw [if_pos (by omega)]); (try with_reducible rfl)
            (try simp only [Act.put, List.setIfInBounds_toArray, List.set_cons_succ, List.set_cons_zero])
            refine wpE_take (i := 18) (oi := { dst := some 143, op := Go.Op.load 3 (Go.Operand.tmp 142), type := 3, pos := "law.go:46", after := #[{ on := 17, ground := Go.Ground.data }, { on := 1, ground := Go.Ground.guard }], guard := some (1, true) }) (v := ?_) rfl (by kernel_rfl) (fun _ _ _ h => h) (Or.inl ⟨by rfl, fun W hW => ?_⟩) hS ?_
            rotate_left
            · obtain ⟨hw1, hw2, hw3, hw4⟩ := hW; go_simp; (try go_bits); (try rw [if_pos (by omega)]); (try with_reducible rfl)
            (try simp only [Act.put, List.setIfInBounds_toArray, List.set_cons_succ, List.set_cons_zero])
            refine wpE_take (i := 19) (oi := { dst := some 144, op := Go.Op.fieldAddr 49 (Go.Operand.tmp 10) 4, type := 0, pos := "law.go:46", after := #[{ on := 1, ground := Go.Ground.guard }], guard := some (1, true) }) (v := ?_) rfl (by kernel_rfl) (fun _ _ _ h => h) (Or.inl ⟨by rfl, fun W hW => ?_⟩) hS ?_
            rotate_left
            · obtain ⟨hw1, hw2, hw3, hw4⟩ := hW; go_simp; (try go_bits); (try rw [if_pos (by omega)]); (try with_reducible rfl)
            (try simp only [Act.put, List.setIfInBounds_toArray, List.set_cons_succ, List.set_cons_zero])
            refine wpE_take (i := 20) (oi := { dst := some 145, op := Go.Op.load 22 (Go.Operand.tmp 144), type := 22, pos := "law.go:46", after := #[{ on := 19, ground := Go.Ground.data }, { on := 1, ground := Go.Ground.guard }], guard := some (1, true) }) (v := ?_) rfl (by kernel_rfl) (fun _ _ _ h => h) (Or.inl ⟨by rfl, fun W hW => ?_⟩) hS ?_
            rotate_left
            · obtain ⟨hw1, hw2, hw3, hw4⟩ := hW; go_simp; (try go_bits); (try rw [if_pos (by omega)]); (try with_reducible rfl)
            (try simp only [Act.put, List.setIfInBounds_toArray, List.set_cons_succ, List.set_cons_zero])
            refine wpE_only (i := 11) (oi := { dst := some 136, op := Go.Op.call { callee := Go.Callee.value (Go.Operand.func 10), args := #[Go.Operand.tmp 127, Go.Operand.tmp 129, Go.Operand.tmp 131, Go.Operand.tmp 133, Go.Operand.tmp 135], argTypes := #[23, 3, 22, 3, 22] }, type := 4, pos := "law.go:46", after := #[{ on := 2, ground := Go.Ground.data }, { on := 4, ground := Go.Ground.data }, { on := 6, ground := Go.Ground.data }, { on := 8, ground := Go.Ground.data }, { on := 10, ground := Go.Ground.data }, { on := 1, ground := Go.Ground.chain }, { on := 1, ground := Go.Ground.guard }], guard := some (1, true) }) rfl (by kernel_rfl) (by rfl) (fun K hK => ?_)
            go_simp; refine (HA.out W.drew HXW.out.1.1).mono ?_; rintro e w5 ⟨rfl, hb5, hU5⟩
            have hAA := (HXW.out.1.new (Upd.drew (Upd.refl _ W))).wrA hb5 hU5
            have hS := And.intro ((hU5.cell (p := ⟨xb, 1, none⟩) hxl (by simp; omega)).trans c1) (And.intro ((hU5.cell (p := ⟨xb, 2, none⟩) hxl (by simp; omega)).trans c2) (And.intro ((hU5.cell (p := ⟨xb, 3, none⟩) hxl (by simp; omega)).trans c3) ((hU5.cell (p := ⟨xb, 4, none⟩) hxl (by simp; omega)).trans c4)))
            have hs5 := hU5.size
            have HAA := Lib.hid (And.intro hAA (And.intro hb5 hU5))
            clear hAA hb5 hU5
            refine hK _ _ hS ?_; clear hK K
            (try simp only [Act.put, List.setIfInBounds_toArray, List.set_cons_succ, List.set_cons_zero])
            refine wpE_only (i := 21) (oi := { dst := some 146, op := Go.Op.call { callee := Go.Callee.value (Go.Operand.func 19), args := #[Go.Operand.tmp 137, Go.Operand.tmp 139, Go.Operand.tmp 141, Go.Operand.tmp 143, Go.Operand.tmp 145], argTypes := #[45, 3, 22, 3, 22] }, type := 4, pos := "law.go:46", after := #[{ on := 12, ground := Go.Ground.data }, { on := 14, ground := Go.Ground.data }, { on := 16, ground := Go.Ground.data }, { on := 18, ground := Go.Ground.data }, { on := 20, ground := Go.Ground.data }, { on := 11, ground := Go.Ground.chain }, { on := 1, ground := Go.Ground.guard }], guard := some (1, true) }) rfl (by kernel_rfl) (by rfl) (fun K hK => ?_)
            go_simp; refine (HA2.out w5 HAA.out.1.2.1).mono ?_; rintro e w6 ⟨rfl, hr6, hU6⟩
            have hS := And.intro ((hU6.cell (p := ⟨xb, 1, none⟩) (Nat.lt_of_lt_of_le hxl hs5) (by simp; omega)).trans hS.1) (And.intro ((hU6.cell (p := ⟨xb, 2, none⟩) (Nat.lt_of_lt_of_le hxl hs5) (by simp; omega)).trans hS.2.1) (And.intro ((hU6.cell (p := ⟨xb, 3, none⟩) (Nat.lt_of_lt_of_le hxl hs5) (by simp; omega)).trans hS.2.2.1) ((hU6.cell (p := ⟨xb, 4, none⟩) (Nat.lt_of_lt_of_le hxl hs5) (by simp; omega)).trans hS.2.2.2)))
            have hBB := HXW.out.1.wrB HAA.out.2.1 HAA.out.1.2.2 hr6 hU6 (by rw [HL'.out]; exact HXW.out.1.2.2.2.2.2.1) (Nat.le_trans hs5 hU6.size)
            have HBB := Lib.hid hBB
            clear hBB hr6 hU6
            refine hK _ _ hS ?_; clear hK K
            (try simp only [Act.put, List.setIfInBounds_toArray, List.set_cons_succ, List.set_cons_zero])
            refine wpE_take (i := 22) (oi := { dst := some 147, op := Go.Op.binOp Go.BinOp.eql 4 (Go.Operand.tmp 136) (Go.Operand.tmp 146) 4, type := 4, pos := "law.go:46", after := #[{ on := 11, ground := Go.Ground.data }, { on := 21, ground := Go.Ground.data }, { on := 1, ground := Go.Ground.guard }], guard := some (1, true) }) (v := ?_) rfl (by kernel_rfl) (fun _ _ _ h => h) (Or.inl ⟨by rfl, fun W hW => ?_⟩) hS ?_
            rotate_left
            · obtain ⟨hw1, hw2, hw3, hw4⟩ := hW; go_simp; (try go_bits); (try rw [if_pos (by omega)]); (try with_reducible rfl)
            (try simp only [Act.put, List.setIfInBounds_toArray, List.set_cons_succ, List.set_cons_zero])
            refine wpE_take (i := 23) (oi := { dst := some 148, op := Go.Op.pick (Go.Operand.tmp 126) (Go.Operand.tmp 147) (Go.Operand.const (Go.Value.bool false)), type := 4, pos := "law.go:46", after := #[{ on := 1, ground := Go.Ground.data }, { on := 22, ground := Go.Ground.data }], guard := none }) (v := ?_) rfl (by kernel_rfl) (fun _ _ _ h => h) (Or.inl ⟨by rfl, fun W hW => ?_⟩) hS ?_
            rotate_left
            · obtain ⟨hw1, hw2, hw3, hw4⟩ := hW; go_simp; (try go_bits); (try rw [if_pos (by omega)]); (try with_reducible rfl)
            (try simp only [Act.put, List.setIfInBounds_toArray, List.set_cons_succ, List.set_cons_zero])
            refine wpE_last (oi := { dst := some 11, op := Go.Op.assign (Go.Operand.tmp 148), type := 4, pos := "law.go:46", after := #[{ on := 23, ground := Go.Ground.data }, { on := 21, ground := Go.Ground.chain }, { on := 0, ground := Go.Ground.phase }, { on := 1, ground := Go.Ground.phase }, { on := 2, ground := Go.Ground.phase }, { on := 3, ground := Go.Ground.phase }, { on := 4, ground := Go.Ground.phase }, { on := 5, ground := Go.Ground.phase }, { on := 6, ground := Go.Ground.phase }, { on := 7, ground := Go.Ground.phase }, { on := 8, ground := Go.Ground.phase }, { on := 9, ground := Go.Ground.phase }, { on := 10, ground := Go.Ground.phase }, { on := 11, ground := Go.Ground.phase }, { on := 12, ground := Go.Ground.phase }, { on := 13, ground := Go.Ground.phase }, { on := 14, ground := Go.Ground.phase }, { on := 15, ground := Go.Ground.phase }, { on := 16, ground := Go.Ground.phase }, { on := 17, ground := Go.Ground.phase }, { on := 18, ground := Go.Ground.phase }, { on := 19, ground := Go.Ground.phase }, { on := 20, ground := Go.Ground.phase }, { on := 21, ground := Go.Ground.phase }, { on := 22, ground := Go.Ground.phase }, { on := 23, ground := Go.Ground.phase }], guard := none }) rfl (by kernel_rfl) (by kernel_rfl) (by rfl) (fun K hK => ?_)
            go_simp; (try go_bits); refine hK _ _ ?_; clear hK K
            go_wp2_with fail
            go_meet
            exact ⟨by simp, L2, HBB.out, by rw [HL'.out]; exact HLL.out, hS.1⟩
          · have HA := Lib.hid (bus_Find HXW.out.1.1 of ho0 ho1 HXW.out.1.2.2.2.2.2.1)
            have HA2 := Lib.hid (ref_Find HXW.out.1.2.1 of ho0 ho1 HXW.out.1.2.2.2.2.2.1)
            generalize findL L of = r at *
            obtain ⟨r1, r2, r3⟩ := r
            simp only [] at HA HA2
            go_wp2_with fail
            refine HA.out.mono ?_; rintro e w' ⟨rfl, rfl⟩
            go_wp2_with fail
            refine HA2.out.mono ?_; rintro e wb ⟨rfl, hUb⟩
            have HZ := Lib.hid (And.intro (HXW.out.1.new hUb) ((hUb.cell (p := ⟨xb, 1, none⟩) HXW.out.2.lt (fun h => h)).trans c1))
            clear hUb
            go_wp2_with fail
            go_meet
            exact ⟨by simp, L, HZ.out.1, HLL.out, HZ.out.2⟩
          · go_wp2_with fail
            go_meet
            exact ⟨rfl, L, HXW.out.1, HLL.out, c1⟩
        case rest =>
          obtain ⟨rfl, L', hB2, hl2, d1⟩ := hcut
          clear c1 c2 c3 c4
          have HA := Lib.hid (bus_Bar hB2.1 s)
          have HA2 := Lib.hid (ref_Bar hB2.2.1 s)
          have HB2 := Lib.hid (And.intro hB2 hl2)
          clear hB2 hl2
          generalize barL L' s = r at *
          obtain ⟨r1, r2⟩ := r
          simp only [] at HA HA2
          go_wp2_with fail
          refine HA.out.mono ?_; rintro e w' ⟨rfl, rfl⟩
          go_wp2_with fail
          refine HA2.out.mono ?_; rintro e wb ⟨rfl, hUb⟩
          have HZ := Lib.hid (And.intro (HB2.out.1.new hUb) HB2.out.2)
          clear hUb d1
          go_wp2
          exact ⟨⟨k + 1, L', by omega, by go_num, HZ.out⟩, by simp [intOf]; omega⟩
      · obtain rfl : k = m := by omega
        have hll := HV.out.2
        have HVB := Lib.hid HV.out.1
        have hln : kinds.length ≤ 9223372036854775807 := by omega
        clear hll
        go_wp2
        go_loopw [26] (fun i wt => ∃ (j : Nat), j ≤ kinds.length ∧ i = .int .i64 (j : Int) ∧ Hid (Both w wt p q p' q' L)) (fun i _ => kinds.length - (intOf i).toNat)
        case atStart => exact ⟨0, by omega, rfl, HVB.out⟩
        case round =>
          obtain ⟨j, hj, rfl, HT⟩ := hrel
          by_cases hjl : j < kinds.length
          · go_wp2
            obtain ⟨wo, hwo⟩ : ∃ wo : World, wo = wr := ⟨_, rfl⟩
            subst hwo
            go_loopw [27] (fun i wt => ∃ (n : Nat), n ≤ 64 ∧ i = .int .u64 ((n * 4 : Nat) : Int) ∧ Hid (Both w wt p q p' q' L)) (fun i _ => 300 - (intOf i).toNat)
            case atStart => exact ⟨0, by omega, rfl, HT.out⟩
            case round =>
              obtain ⟨n, hn, rfl, HS⟩ := hrel
              by_cases hn4 : n < 64
              · have HA := Lib.hid (bus_Read HS.out.1 (j : Int) ((n * 4 : Nat) : Int) 4 (by omega) (by omega))
                have HA2 := Lib.hid (ref_Read HS.out.2.1 (j : Int) ((n * 4 : Nat) : Int) 4 (by omega) (by omega))
                generalize rdS L (j : Int) ((n * 4 : Nat) : Int) 4 = r at *
                obtain ⟨r1, r2⟩ := r
                simp only [] at HA HA2
                go_wp2_with fail
                refine HA.out.mono ?_; rintro e w' ⟨rfl, rfl⟩
                go_wp2_with fail
                refine HA2.out.mono ?_; rintro e wb ⟨rfl, hUb⟩
                have HZ := Lib.hid (HS.out.new hUb)
                clear hUb
                go_wp2
                exact ⟨⟨n + 1, by omega, by go_num, HZ.out⟩, by simp [intOf]; omega⟩
              · obtain rfl : n = 64 := by omega
                go_wp2
                exact ⟨⟨j + 1, by omega, by go_num, HS.out⟩, by simp [intOf]; omega⟩
          · go_wp2_with fail
            refine (awake_calls _).mono ?_; rintro e w4 ⟨rfl, hU4⟩
            go_wp2
            go_ret
            exact ⟨rfl, HT.out.2.2.1.trans hU4⟩
  · have hU2' := HU1.out.trans hU2
    have HNR := Lib.hid (ref_New A0 cap0 kinds w2 (hrd.more hsz))
    have HU2 := Lib.hid hU2'
    clear hU2 hU2' hrd hsz
    go_wp2_with fail
    refine HNR.out.mono ?_; rintro e w3 ⟨hU3, h⟩
    rcases h with ⟨h, _⟩ | ⟨_, rfl⟩
    · rw [hok] at h; cases h
    · have HU3 := Lib.hid (HU2.out.trans hU3)
      clear hU3
      go_wp2_with fail
      refine (awake_calls _).mono ?_; rintro e w4 ⟨rfl, hU4⟩
      go_wp2
      go_ret
      exact ⟨rfl, HU3.out.trans hU4⟩
end Go.Proofs.Ytibhialnaibkjaa
