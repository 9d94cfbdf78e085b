import Derived.Test.YtibhialnaibkjaaPciLaws
namespace Go.Proofs.Ytibhialnaibkjaa
set_option linter.unusedVariables false
open Go.RowKit
set_option maxRecDepth 100000

theorem info_int : (Try.prog.info? 3).map (fun i => (i.zero, i.size, i.bytes)) = some (some (.int .i64 0), 1, 8) := by kernel_rfl

/-- slot j of PciFinds -/
def finSl (bases : List Int) (on : List Bool) (j : Nat) : Sl := ⟨0, if on.getD j false then 2 else 0, bases.getD j 0 % 4294967296 / 4096 * 4096, 0⟩
theorem finSl_wf (bases : List Int) (on : List Bool) (j : Nat) : (finSl bases on j).wf := by
  refine ⟨by simp [finSl], ?_, ?_, by simp [finSl]⟩
  · simp only [finSl]; split <;> simp
  · simp only [finSl]; omega
/-- the slots when all from i on have been written -/
def finL (bases : List Int) (on : List Bool) (n i : Nat) : List Sl := (List.range n).map fun j => if i ≤ j then finSl bases on j else fresh 0
theorem finL_len (bases : List Int) (on : List Bool) (n i : Nat) : (finL bases on n i).length = n := by simp [finL]
theorem finL_get (bases : List Int) (on : List Bool) {n i j : Nat} (h : j < n) : (finL bases on n i)[j]? = some (if i ≤ j then finSl bases on j else fresh 0) := by
  simp [finL, h]
theorem finL_set (bases : List Int) (on : List Bool) {n i : Nat} (h : i < n) : (finL bases on n (i + 1)).set i (finSl bases on i) = finL bases on n i := by
  apply List.ext_getElem?
  intro j
  rw [List.getElem?_set]
  rcases Nat.lt_or_ge j n with hj | hj
  · rw [finL_get _ _ hj, finL_get _ _ hj]
    by_cases e : i = j
    · subst e; rw [if_pos rfl, if_pos (by rw [finL_len]; exact h), if_pos (Nat.le_refl _)]
    · rw [if_neg e]
      by_cases e2 : i + 1 ≤ j
      · rw [if_pos e2, if_pos (by omega)]
      · rw [if_neg e2, if_neg (by omega)]
  · rw [List.getElem?_eq_none (by rw [finL_len]; exact hj), List.getElem?_eq_none (by rw [finL_len]; exact hj)]
    rw [if_neg (by omega)]
theorem finL_n (bases : List Int) (on : List Bool) (n : Nat) : finL bases on n n = (List.replicate n (0 : Int)).map fresh := by
  apply List.ext_getElem?
  intro j
  rcases Nat.lt_or_ge j n with hj | hj
  · rw [finL_get _ _ hj, if_neg (by omega)]; simp [hj]
  · rw [List.getElem?_eq_none (by rw [finL_len]; exact hj), List.getElem?_eq_none (by simpa using hj)]
/-- does slot j have the address? -/
def finHit (bases : List Int) (on : List Bool) (addr : Int) (j : Nat) : Bool := on.getD j false && (bases.getD j 0 % 4294967296 / 4096 * 4096 != 0) && (addr / 4096 * 4096 == bases.getD j 0 % 4294967296 / 4096 * 4096)
theorem hit_core (o : Bool) (b addr : Int) (hm : b % 4096 = 0) :
    ((((if o = true then (2 : Int) else 0) == 2 || (if o = true then (2 : Int) else 0) == 6) && b != 0) && (decide (b ≤ addr) && decide (addr - b < 4096))) = (o && (b != 0) && (addr / 4096 * 4096 == b)) := by
  have h : (decide (b ≤ addr) && decide (addr - b < 4096)) = (addr / 4096 * 4096 == b) := by
    rw [Bool.eq_iff_iff]; simp; omega
  rw [h]
  cases o <;> simp
theorem hit_fin (bases : List Int) (on : List Bool) (addr : Int) (j : Nat) : hit addr (finSl bases on j) = finHit bases on addr j := by
  unfold hit barS finSl finHit
  exact hit_core _ (bases.getD j 0 % 4294967296 / 4096 * 4096) _ (by omega)
/-- what 'want' holds when all from i on have been seen -/
def Want (bases : List Int) (on : List Bool) (addr : Int) (n i : Nat) (t : Int) : Prop :=
  (t = -1 ∧ ∀ j, i ≤ j → j < n → finHit bases on addr j = false) ∨ ∃ k : Nat, t = k ∧ i ≤ k ∧ k < n ∧ finHit bases on addr k = true ∧ ∀ j, i ≤ j → j < k → finHit bases on addr j = false
theorem want_next {bases : List Int} {on : List Bool} {addr : Int} {n i : Nat} {t : Int} (h : Want bases on addr n (i + 1) t) (hi : i < n) : Want bases on addr n i (if finHit bases on addr i then (i : Int) else t) := by
  by_cases hh : finHit bases on addr i = true
  · rw [if_pos hh]; exact .inr ⟨i, rfl, Nat.le_refl _, hi, hh, fun j h1 h2 => by omega⟩
  · have hf : finHit bases on addr i = false := by simpa using hh
    rw [if_neg hh]
    rcases h with ⟨rfl, h⟩ | ⟨k, rfl, h1, h2, h3, h4⟩
    · exact .inl ⟨rfl, fun j hj hjn => by by_cases e : j = i; subst e; exact hf; exact h j (by omega) hjn⟩
    · exact .inr ⟨k, rfl, by omega, h2, h3, fun j hj hjk => by by_cases e : j = i; subst e; exact hf; exact h4 j (by omega) hjk⟩
theorem find_fin {bases : List Int} {on : List Bool} {addr : Int} {n : Nat} {t : Int} (h : Want bases on addr n 0 t) :
    (t = -1 ∧ findL (finL bases on n 0) addr = (0, 0, false)) ∨ (0 ≤ t ∧ findL (finL bases on n 0) addr = (t, addr % 4096, true)) := by
  have hg : ∀ j s, (finL bases on n 0)[j]? = some s → j < n ∧ s = finSl bases on j := by
    intro j s hs
    have hj : j < n := by have := (List.getElem?_eq_some_iff.1 hs).1; rwa [finL_len] at this
    rw [finL_get _ _ hj, if_pos (by omega)] at hs
    exact ⟨hj, (Option.some.inj hs).symm⟩
  rcases h with ⟨rfl, h⟩ | ⟨k, rfl, _, h2, h3, h4⟩
  · refine .inl ⟨rfl, find_none fun j s hj hs => ?_⟩
    obtain ⟨hjn, rfl⟩ := hg j s hs
    rw [hit_fin]; exact h j (by omega) hjn
  · refine .inr ⟨by omega, ?_⟩
    have hk : (finL bases on n 0)[k]? = some (finSl bases on k) := by rw [finL_get _ _ h2, if_pos (by omega)]
    rw [find_at (fun j s hj hs => by obtain ⟨hjn, rfl⟩ := hg j s hs; rw [hit_fin]; exact h4 j (by omega) hj) hk (by rw [hit_fin]; exact h3), barL, at_lt hk]
    simp only [finHit, Bool.and_eq_true, beq_iff_eq] at h3
    simp only [barS, finSl]
    congr 2
    have h5 := h3.2
    obtain ⟨b, hb⟩ : ∃ b, b = bases.getD k 0 % 4294967296 / 4096 * 4096 := ⟨_, rfl⟩
    rw [← hb] at h5 ⊢
    omega

theorem wrL_at {L : List Sl} {m : Nat} {s : Sl} (h : L[m]? = some s) {off size v : Int} (hf : fitsZ off size = true) : wrL L m off size v = L.set m (wrS s off.toNat size.toNat v) := by
  simp only [wrL, hf, at_lt h, if_true, Int.toNat_natCast]
theorem fin_write {bases : List Int} {on : List Bool} {n m : Nat} (h : m < n) {bv : Int} (hsl : finSl bases on m = ⟨0, 0, bv % 4294967296 / 4096 * 4096, 0⟩) :
    wrL (finL bases on n (m + 1)) m 16 4 (bv % 4294967296 / 4096 * 4096) = finL bases on n m := by
  rw [wrL_at (finL_get _ _ h) rfl, if_neg (by omega), show (16 : Int).toNat = 16 from rfl, show (4 : Int).toNat = 4 from rfl, wrS_base_eq (fresh_wf (by omega)), ← finL_set bases on h, hsl]
  congr 1
  simp only [fresh]
  congr 1
  omega
theorem fin_write2 {bases : List Int} {on : List Bool} {n m : Nat} (h : m < n) {bv : Int} (hsl : finSl bases on m = ⟨0, 2, bv % 4294967296 / 4096 * 4096, 0⟩) :
    wrL (wrL (finL bases on n (m + 1)) m 16 4 (bv % 4294967296 / 4096 * 4096)) m 4 2 2 = finL bases on n m := by
  have h1 : (wrL (finL bases on n (m + 1)) m 16 4 (bv % 4294967296 / 4096 * 4096))[m]? = some { fresh 0 with base := bv % 4294967296 / 4096 * 4096 } := by
    rw [wrL_at (finL_get _ _ h) rfl, if_neg (by omega), show (16 : Int).toNat = 16 from rfl, show (4 : Int).toNat = 4 from rfl, wrS_base_eq (fresh_wf (by omega)), List.getElem?_set_self (by rw [finL_len]; exact h)]
    congr 2
    omega
  have hwf : ({ fresh 0 with base := bv % 4294967296 / 4096 * 4096 } : Sl).wf := ⟨by simp [fresh], .inl rfl, by simp only []; omega, by simp [fresh]⟩
  rw [wrL_at h1 rfl, show (4 : Int).toNat = 4 from rfl, show (2 : Int).toNat = 2 from rfl, wrS_cmd_eq hwf, wrL_at (finL_get _ _ h) rfl, List.set_set, ← finL_set bases on h, hsl]
  rfl
theorem finds_calls (A0 A1 : Option Addr) (cap0 cap1 : Nat) (bases : List Int) (on : List Bool) (addr : Int) (w : World)
    (hr0 : Reads w w.heap.size 1 A0 bases.length (bases.map (.int .u64))) (hw0 : ∀ z ∈ bases, 0 ≤ z ∧ z < 18446744073709551616) (hr1 : Reads w w.heap.size 1 A1 on.length (on.map .bool))
    (hm0 : bases.length ≤ 9223372036854775807) (hm1 : on.length ≤ 9223372036854775807) (ha0 : 0 ≤ addr) (ha1 : addr < 18446744073709551616) :
    Calls Try.prog 6 #[.slice A0 bases.length cap0, .slice A1 on.length cap1, .int .u64 addr] w fun e w' => e = .returned (.bool true) ∧ Upd (fun _ => False) w w' := by
  obtain ⟨n, hn⟩ : ∃ n, n = min bases.length 8 := ⟨_, rfl⟩
  have hnl : n ≤ bases.length := by omega
  have hn8 : n ≤ 8 := by omega
  obtain ⟨ie, hie, hiz, his, hib⟩ := info_parts info_int
  have HR := Lib.hid (And.intro hr0 (And.intro hw0 hr1))
  clear hr0 hw0 hr1
  have HN := Lib.hid hn
  clear hn
  go_enter Try.func6, Try.ntmps6
  go_upto_if 20 with fail
  go_cut [7] (fun s7 wx => s7 = .int .i64 (n : Int) ∧ w = wx)
  case first =>
    by_cases hgt : (8 : Int) < bases.length
    · go_wp2_with fail
      go_meet
      have := HN.out
      exact ⟨congrArg _ (by omega), rfl⟩
    · go_wp2_with fail
      go_meet
      have := HN.out
      exact ⟨congrArg _ (by omega), rfl⟩
  case rest =>
    obtain ⟨rfl, rfl⟩ := hcut
    go_wp2_with ((with_reducible show wpList _ _ _ ((⟨some 23, _, _, _, _, _⟩ : Oper) :: _) _ _); refine wpList_make_full _ rfl _ _ _ rfl w.heap.size 3 ie _ 1 Try.underlying28 hie hiz his .i64 .i64 n n n rfl rfl rfl rfl (by rw [hib]; omega) (by unfold maxLen; omega) (Nat.le_refl _) ?_)
    intro w1 hown hg1
    have hks : Reads w1 w1.heap.size 1 (some ⟨w.heap.size, 0, none⟩) (List.replicate n (0 : Int)).length ((List.replicate n (0 : Int)).map (.int .i64)) := by
      have h := Reads.of_own hown
      rw [toList_madeCells_one] at h
      simpa using h
    have hU1 : Upd (fun _ => False) w w1 := (Upd.refl _ _).grown hg1 (fun k e => by cases e)
    have hok : okK (List.replicate n (0 : Int)) = true := by simp [okK]; omega
    clear hown hg1
    go_wp2_with fail
    have hcall := pci_New (some ⟨w.heap.size, 0, none⟩) n (List.replicate n (0 : Int)) w1 hks
    rw [List.length_replicate] at hcall
    refine hcall.mono ?_
    clear hcall
    rintro e w2 ⟨hU, h⟩
    rcases h with ⟨_, p, q, rfl, hp, hq, hbus⟩ | ⟨h, _⟩
    case inr => rw [hok] at h; cases h
    have hsz := hU1.size
    have hpq : w.heap.size ≤ p ∧ w.heap.size ≤ q := ⟨by omega, by omega⟩
    rw [← finL_n bases on n] at hbus
    have HB := Lib.hid (And.intro hbus (hU1.trans hU))
    clear hks hU1 hok hU hp hq hbus hsz
    go_wp2
    go_loopw [10, 11] (fun t i wr => ∃ (m : Nat) (z : Int), m ≤ n ∧ i = .int .i64 ((m : Int) - 1) ∧ t = .int .i64 z ∧ Hid (Want bases on addr n m z ∧ BusAt wr p q (finL bases on n m) ∧ Upd (fun _ => False) w wr)) (fun _ i _ => (intOf i + 1).toNat)
    case atStart => exact ⟨n, -1, Nat.le_refl _, rfl, rfl, .inl ⟨rfl, fun j h1 h2 => by omega⟩, HB.out.1, HB.out.2⟩
    case round =>
      obtain ⟨m, z, hm, rfl, rfl, HV⟩ := hrel
      rcases m with _ | m
      · have hneg : ¬ (0 : Int) ≤ ((0 : Nat) : Int) - 1 := by omega
        obtain ⟨hW, hbus, hU⟩ := HV.out
        have hfind := bus_Find hbus addr ha0 ha1 (by rw [finL_len]; exact hn8)
        rcases find_fin hW with ⟨rfl, hf⟩ | ⟨hz, hf⟩
        · rw [hf] at hfind
          have HF := Lib.hid hfind
          have HU := Lib.hid hU
          clear hW hbus hU hf hfind
          go_wp2_with fail
          refine HF.out.mono ?_; rintro e w' ⟨rfl, rfl⟩
          go_wp2_with fail
          refine (awake_calls _).mono ?_; rintro e w5 ⟨rfl, hU5⟩
          go_wp2
          go_ret
          exact ⟨rfl, HU.out.trans hU5⟩
        · rw [hf] at hfind
          have HF := Lib.hid hfind
          have HU := Lib.hid hU
          have hz' : ¬ z < 0 := by omega
          clear hW hbus hU hf hfind
          go_wp2_with fail
          refine HF.out.mono ?_; rintro e w' ⟨rfl, rfl⟩
          go_wp2_with fail
          refine (awake_calls _).mono ?_; rintro e w5 ⟨rfl, hU5⟩
          go_wp2
          go_ret
          exact ⟨rfl, HU.out.trans hU5⟩
      · have hlt : m < bases.length := by omega
        obtain ⟨hW, hbus, hU⟩ := HV.out
        obtain ⟨ad, u, rfl, hadb, hu, hc⟩ := HR.out.1.at_ hlt
        have hget : bases[m]? = some (bases.getD m 0) := by rw [List.getD_eq_getElem?_getD, List.getElem?_eq_getElem hlt]; rfl
        have hck : wr.cell? (ad.add m) = some (.int .u64 (bases.getD m 0)) := by
          rw [hU.cell (by rw [block_of_add]; exact hadb) (fun h => h), hc]
          rw [List.getElem?_map, hget] at hu; exact hu.symm
        have hbb := HR.out.2.1 _ (List.mem_of_getElem? hget)
        have hon : m < on.length → ∃ ad', A1 = some ad' ∧ wr.cell? (ad'.add m) = some (.bool (on.getD m false)) := by
          intro hl
          obtain ⟨ad', u', e', hadb', hu', hc'⟩ := HR.out.2.2.at_ hl
          refine ⟨ad', e', ?_⟩
          rw [hU.cell (by rw [block_of_add]; exact hadb') (fun h => h), hc']
          rw [List.getElem?_map, List.getElem?_eq_getElem hl] at hu'
          rw [List.getD_eq_getElem?_getD, List.getElem?_eq_getElem hl]; exact hu'.symm
        have hno : ¬ m < on.length → on.getD m false = false := fun hl => by rw [List.getD_eq_getElem?_getD, List.getElem?_eq_none (by omega)]; rfl
        have hwn := want_next hW (show m < n by omega)
        have hfr : (finL bases on n (m + 1))[m]? = some (fresh 0) := by rw [finL_get _ _ (by omega), if_neg (by omega)]
        have HH := Lib.hid (And.intro hbus (And.intro hU (And.intro hwn hfr)))
        have hfb : finHit bases on addr m = (on.getD m false && (bases.getD m 0 % 4294967296 / 4096 * 4096 != 0) && (addr / 4096 * 4096 == bases.getD m 0 % 4294967296 / 4096 * 4096)) := rfl
        have hsl : finSl bases on m = ⟨0, if on.getD m false then 2 else 0, bases.getD m 0 % 4294967296 / 4096 * 4096, 0⟩ := rfl
        have HX := Lib.hid (And.intro hfb hsl)
        clear hW hbus hU hu hc hget hwn hfr hfb hsl
        generalize bases.getD m 0 = bv at *
        generalize on.getD m false = lv at *
        rw [show (((m + 1 : Nat) : Int) - 1) = (m : Int) from by omega]
        have hmn : m < n := by omega
        have hV0 : 0 ≤ bv % 4294967296 / 4096 * 4096 := by omega
        have hV1 : bv % 4294967296 / 4096 * 4096 < 18446744073709551616 := by omega
        have hpq' := hpq
        have step : ∀ wx, BusAt wx p q (finL bases on n m) → Upd (· = q) wr wx → Hid (Want bases on addr n m (if finHit bases on addr m then (m : Int) else z) ∧ BusAt wx p q (finL bases on n m) ∧ Upd (fun _ => False) w wx) :=
          fun wx hb hu => ⟨HH.out.2.2.1, hb, HH.out.2.1.trans' hu (by omega)⟩
        have HS := Lib.hid step
        clear step
        cases lv with
        | true =>
          have hmo : m < on.length := by
            rcases Nat.lt_or_ge m on.length with h | h
            · exact h
            · have := hno (by omega); cases this
          obtain ⟨ad', rfl, hcell⟩ := hon hmo
          clear hon hno
          go_wp2_with fail
          refine (bus_Write HH.out.1 m 16 4 _ (by omega) (by omega) hV0 hV1).mono ?_; rintro e w3 ⟨rfl, hb3, hU3⟩
          rw [show fitsZ 16 4 = true from rfl]
          have HB3 := Lib.hid (And.intro hb3 hU3)
          clear hb3 hU3
          go_wp2_with fail
          refine (bus_Write HB3.out.1 m 4 2 2 (by omega) (by omega) (by omega) (by omega)).mono ?_; rintro e w4 ⟨rfl, hb4, hU4⟩
          rw [show fitsZ 4 2 = true from rfl]
          rw [fin_write2 hmn (by rw [HX.out.2]; rfl)] at hb4
          have HN2 := Lib.hid (HS.out w4 hb4 (HB3.out.2.trans hU4))
          clear hb4 hU4
          have hfb := HX.out.1
          by_cases hz : bv % 4294967296 / 4096 * 4096 = 0
          · have hz' : (bv % 4294967296 / 4096 * 4096 != 0) = false := by simp [hz]
            rw [hz'] at hfb
            rw [hfb] at HN2
            clear hfb hz
            go_wp2
            exact ⟨⟨m, z, by omega, rfl, rfl, HN2.out⟩, by simp [intOf]⟩
          · have hz' : (bv % 4294967296 / 4096 * 4096 != 0) = true := by simp [hz]
            rw [hz'] at hfb
            by_cases he : addr / 4096 * 4096 = bv % 4294967296 / 4096 * 4096
            · have he' : (addr / 4096 * 4096 == bv % 4294967296 / 4096 * 4096) = true := by simp [he]
              rw [he'] at hfb
              rw [hfb] at HN2
              clear hfb hz he
              go_wp2
              exact ⟨⟨m, m, by omega, rfl, rfl, HN2.out⟩, by simp [intOf]⟩
            · have he' : (addr / 4096 * 4096 == bv % 4294967296 / 4096 * 4096) = false := by simp [he]
              rw [he'] at hfb
              rw [hfb] at HN2
              clear hfb hz he
              go_wp2
              exact ⟨⟨m, z, by omega, rfl, rfl, HN2.out⟩, by simp [intOf]⟩
        | false =>
          have hfb := HX.out.1
          rw [Bool.false_and, Bool.false_and] at hfb
          rw [hfb] at HS
          clear hfb
          by_cases hmo : m < on.length
          · obtain ⟨ad', rfl, hcell⟩ := hon hmo
            clear hon hno
            go_wp2_with fail
            refine (bus_Write HH.out.1 m 16 4 _ (by omega) (by omega) hV0 hV1).mono ?_; rintro e w3 ⟨rfl, hb3, hU3⟩
            rw [show fitsZ 16 4 = true from rfl]
            rw [fin_write hmn (by rw [HX.out.2]; rfl)] at hb3
            have HN2 := Lib.hid (HS.out w3 hb3 hU3)
            clear hb3 hU3
            go_wp2
            exact ⟨⟨m, z, by omega, rfl, rfl, HN2.out⟩, by simp [intOf]⟩
          · clear hon hno
            go_wp2_with fail
            refine (bus_Write HH.out.1 m 16 4 _ (by omega) (by omega) hV0 hV1).mono ?_; rintro e w3 ⟨rfl, hb3, hU3⟩
            rw [show fitsZ 16 4 = true from rfl]
            rw [fin_write hmn (by rw [HX.out.2]; rfl)] at hb3
            have HN2 := Lib.hid (HS.out w3 hb3 hU3)
            clear hb3 hU3
            go_wp2
            exact ⟨⟨m, z, by omega, rfl, rfl, HN2.out⟩, by simp [intOf]⟩
end Go.Proofs.Ytibhialnaibkjaa
