import Derived.Test.YtjhibbhinbdciaaRam
namespace Go.Proofs.Ytjhibbhinbdciaa
set_option linter.unusedVariables false
open Go.RowKit
set_option maxRecDepth 100000

theorem ram_getC {own : Nat → Nat} {c p base n : Nat} {m : Nat → Int} {w : World} (h : MemAt ramK own c w p base n m) (off : Nat) (ho : off < n * 4096) :
    Calls Try.prog 42 #[.pointer (some ⟨p, 0, none⟩), .int .u64 ((base + off : Nat) : Int)] w fun e w' => e = .returned (.int .u8 (m off)) ∧ w = w' := by
  obtain ⟨q, fs, h, rfl⟩ := h
  exact ram_get h off ho
theorem ram_putC {own : Nat → Nat} {c p base n : Nat} {m : Nat → Int} {w : World} (h : MemAt ramK own c w p base n m) (off : Nat) (ho : off < n * 4096) (v : Int) (hv : 0 ≤ v ∧ v < 256) :
    Calls Try.prog 43 #[.pointer (some ⟨p, 0, none⟩), .int .u64 ((base + off : Nat) : Int), .int .u8 v] w fun e w' => e = .returned (.tuple #[]) ∧
      ∃ own', Step (· = c) own w own' w' ∧ MemAt ramK own' c w' p base n (setB m off v) := by
  obtain ⟨q, fs, h, rfl⟩ := h
  refine (ram_put_in h off ho v hv).mono ?_
  rintro e w' ⟨rfl, own', fs', hS, hR, hl⟩
  exact ⟨rfl, own', hS, q, fs', hR, hl⟩
theorem ram_hasC {own : Nat → Nat} {c p base n : Nat} {m : Nat → Int} {w : World} (h : MemAt ramK own c w p base n m) (addr size : Int) (ha0 : 0 ≤ addr) (ha1 : addr < 18446744073709551616) (hs0 : -9223372036854775808 ≤ size) (hs1 : size ≤ 9223372036854775807) :
    Calls Try.prog 41 #[.pointer (some ⟨p, 0, none⟩), .int .u64 addr, .int .i64 size] w fun e w' => e = .returned (.bool (hasR base n addr size)) ∧ ∃ k, w' = w.drewN k := by
  obtain ⟨q, fs, h, rfl⟩ := h
  exact ram_Has (h.bp.cell 0) (h.bp.cell 1) h.hn.2 h.hb addr size ha0 ha1 hs0 hs1

theorem ram_get' {own : Nat → Nat} {c p base n : Nat} {m : Nat → Int} {w : World} (h : MemAt ramK own c w p base n m) (off : Nat) (ho : off < n * 4096) (a : Int) (ha : a = ((base + off : Nat) : Int)) :
    Calls Try.prog 42 #[.pointer (some ⟨p, 0, none⟩), .int .u64 a] w fun e w' => e = .returned (.int .u8 (m off)) ∧ w = w' := by
  subst ha; exact ram_getC h off ho
theorem ram_put' {own : Nat → Nat} {c p base n : Nat} {m : Nat → Int} {w : World} (h : MemAt ramK own c w p base n m) (off : Nat) (ho : off < n * 4096) (v : Int) (hv : 0 ≤ v ∧ v < 256) (a v' : Int) (ha : a = ((base + off : Nat) : Int)) (hv' : v' = v) :
    Calls Try.prog 43 #[.pointer (some ⟨p, 0, none⟩), .int .u64 a, .int .u8 v'] w fun e w' => e = .returned (.tuple #[]) ∧
      ∃ own', Step (· = c) own w own' w' ∧ MemAt ramK own' c w' p base n (setB m off v) := by
  subst ha; subst hv'; exact ram_putC h off ho _ hv
/-- a size of numbers -/
def okS (size : Int) : Bool := size == 1 || size == 2 || size == 4 || size == 8
theorem okS_iff {size : Int} : okS size = true ↔ (size = 1 ∨ size = 2 ∨ size = 4 ∨ size = 8) := by simp [okS, or_assoc]
theorem ram_whole (size : Int) (w : World) : Calls Try.prog 40 #[.int .i64 size] w fun e w' => e = .returned (.bool (okS size)) ∧ w = w' := by
  go_enter Try.func40, Try.ntmps40
  go_wp2
  all_goals go_ret
  all_goals (refine ⟨?_, rfl⟩; simp_all [okS])

/-- what a read comes to -/
def rdR (base n : Nat) (m : Nat → Int) (addr size : Int) : Int × Bool := if okS size && hasR base n addr size then (num m (addr - base).toNat size.toNat, true) else (0, false)

theorem ram_Read {own : Nat → Nat} {c p base n : Nat} {m : Nat → Int} {w : World} (h : MemAt ramK own c w p base n m) (addr size : Int) (ha0 : 0 ≤ addr) (ha1 : addr < 18446744073709551616) (hs0 : -9223372036854775808 ≤ size) (hs1 : size ≤ 9223372036854775807) :
    Calls Try.prog 18 #[.pointer (some ⟨p, 0, none⟩), .int .u64 addr, .int .i64 size] w fun e w' =>
      e = .returned (.tuple #[.int .u64 (rdR base n m addr size).1, .bool (rdR base n m addr size).2]) ∧ ∃ k, w' = w.drewN k := by
  have HW := Lib.hid (ram_whole size w)
  have HH := Lib.hid (ram_hasC h addr size ha0 ha1 hs0 hs1)
  by_cases h1 : okS size = true
  · by_cases h2 : hasR base n addr size = true
    · have hres : rdR base n m addr size = (num m (addr - base).toNat size.toNat, true) := by simp [rdR, h1, h2]
      rw [hres]
      obtain ⟨q1, q2, q3, q4⟩ := hasR_iff.1 h2
      obtain ⟨o, ho⟩ := Int.eq_ofNat_of_zero_le (show 0 ≤ addr - base by omega)
      obtain ⟨s, rfl⟩ := Int.eq_ofNat_of_zero_le q1
      obtain rfl : addr = ((base + o : Nat) : Int) := by omega
      have hs8 : s ≤ 8 := by have := okS_iff.1 h1; omega
      have hroom : o + s ≤ n * 4096 := by omega
      simp only [show ((base + o : Nat) : Int) - base = (o : Int) from by omega, Int.toNat_natCast]
      have hbd := h.bd
      have hsz := h.sizes
      have HR := Lib.hid h
      have HBD := Lib.hid hbd
      clear h hbd hres q1 q2 q3 q4 ho
      go_enter Try.func18, Try.ntmps18
      go_wp2_with fail
      refine HW.out.mono ?_; rintro e w' ⟨rfl, rfl⟩; rw [h1]
      go_wp2_with fail
      refine HH.out.mono ?_; rintro e w' ⟨rfl, k0, rfl⟩; rw [h2]
      have HR0 := Lib.hid (HR.out.drewN k0)
      clear HW HH
      go_wp2
      go_loop [8, 9] (fun v i => ∃ (k : Nat), k ≤ s ∧ v = .int .u64 (num m (o + k) (s - k)) ∧ i = .int .i64 ((k : Int) - 1)) (fun _ i => (intOf i + 1).toNat)
      case atStart => exact ⟨s, by omega, by simp [num], rfl⟩
      case round =>
        obtain ⟨k, hk, rfl, rfl⟩ := hrel
        rcases k with _ | k
        · have h : ¬ (0 : Int) ≤ ((0 : Nat) : Int) - 1 := by omega
          go_wp2
          go_ret2
          exact ⟨by simp, _, rfl⟩
        · obtain ⟨hy0, hy1⟩ := HBD.out (o + k)
          have HX := Lib.hid (show num m (o + k) (s - k) = m (o + k) + 256 * num m (o + (k + 1)) (s - (k + 1)) from by
            rw [show s - k = (s - (k + 1)) + 1 from by omega]; rfl)
          have hx0 := num_nonneg HBD.out (s - (k + 1)) (o + (k + 1))
          have hx1 := num_lt7 HBD.out (o + (k + 1)) (n := s - (k + 1)) (by omega)
          generalize num m (o + (k + 1)) (s - (k + 1)) = x at *
          rw [show (((k + 1 : Nat) : Int) - 1) = (k : Int) from by omega]
          go_wp2_with fail
          refine (ram_get' HR0.out (o + k) (by omega) _ (by go_num)).mono ?_; rintro e w' ⟨rfl, rfl⟩
          go_wp2
          go_round
          case rel =>
            refine ⟨k, by omega, ?_, rfl⟩
            rw [HX.out, or_shl8 hx0 hx1 hy0 hy1]
          case measure => simp [intOf]
    · have h2 : hasR base n addr size = false := by simpa using h2
      have hres : rdR base n m addr size = (0, false) := by simp [rdR, h2]
      rw [hres]
      clear h
      go_enter Try.func18, Try.ntmps18
      go_wp2_with fail
      refine HW.out.mono ?_; rintro e w' ⟨rfl, rfl⟩; rw [h1]
      go_wp2_with fail
      refine HH.out.mono ?_; rintro e w' ⟨rfl, k0, rfl⟩; rw [h2]
      go_wp2
      go_ret2
      exact ⟨rfl, _, rfl⟩
  · have h1 : okS size = false := by simpa using h1
    have hres : rdR base n m addr size = (0, false) := by simp [rdR, h1]
    rw [hres]
    clear h
    go_enter Try.func18, Try.ntmps18
    go_wp2_with fail
    refine HW.out.mono ?_; rintro e w' ⟨rfl, rfl⟩; rw [h1]
    go_wp2
    go_ret2
    exact ⟨rfl, 0, rfl⟩

/-- what a write comes to -/
def wrR (base n : Nat) (m : Nat → Int) (addr size v : Int) : Nat → Int := if okS size && hasR base n addr size then put m (addr - base).toNat size.toNat v else m
theorem setB_put (m : Nat → Int) (o k : Nat) (v : Int) : setB (put m o k v) (o + k) (byteOf v k) = put m o (k + 1) v := by
  funext i; rw [put_succ]; rfl
theorem ram_Write {own : Nat → Nat} {c p base n : Nat} {m : Nat → Int} {w : World} (h : MemAt ramK own c w p base n m) (addr size v : Int) (ha0 : 0 ≤ addr) (ha1 : addr < 18446744073709551616) (hs0 : -9223372036854775808 ≤ size) (hs1 : size ≤ 9223372036854775807) (hv0 : 0 ≤ v) (hv1 : v < 18446744073709551616) :
    Calls Try.prog 24 #[.pointer (some ⟨p, 0, none⟩), .int .u64 addr, .int .i64 size, .int .u64 v] w fun e w' =>
      e = .returned (.bool (okS size && hasR base n addr size)) ∧ ∃ own', Step (· = c) own w own' w' ∧ MemAt ramK own' c w' p base n (wrR base n m addr size v) := by
  have HW := Lib.hid (ram_whole size w)
  have HH := Lib.hid (ram_hasC h addr size ha0 ha1 hs0 hs1)
  have hsz := h.sizes
  have HR := Lib.hid h
  clear h
  by_cases h1 : okS size = true
  · by_cases h2 : hasR base n addr size = true
    · have hres : wrR base n m addr size v = put m (addr - base).toNat size.toNat v := by simp [wrR, h1, h2]
      rw [hres, h1, h2]
      obtain ⟨q1, q2, q3, q4⟩ := hasR_iff.1 h2
      obtain ⟨o, ho⟩ := Int.eq_ofNat_of_zero_le (show 0 ≤ addr - base by omega)
      obtain ⟨s, rfl⟩ := Int.eq_ofNat_of_zero_le q1
      obtain rfl : addr = ((base + o : Nat) : Int) := by omega
      have hs8 : s ≤ 8 := by have := okS_iff.1 h1; omega
      have hroom : o + s ≤ n * 4096 := by omega
      simp only [show ((base + o : Nat) : Int) - base = (o : Int) from by omega, Int.toNat_natCast]
      clear hres q1 q2 q3 q4 ho
      go_enter Try.func24, Try.ntmps24
      go_wp2_with fail
      refine HW.out.mono ?_; rintro e w' ⟨rfl, rfl⟩; rw [h1]
      go_wp2_with fail
      refine HH.out.mono ?_; rintro e w' ⟨rfl, k0, rfl⟩; rw [h2]
      have HR0 := Lib.hid (And.intro ((Step.refl (· = c) own w).drewN k0) (HR.out.drewN k0))
      clear HW HH HR
      go_wp2
      go_loopw [21] (fun i wr => ∃ (k : Nat), k ≤ s ∧ i = .int .i64 (k : Int) ∧ Hid (∃ own', Step (· = c) own w own' wr ∧ MemAt ramK own' c wr p base n (put m o k v))) (fun i _ => s - (intOf i).toNat)
      case atStart => exact ⟨0, by omega, rfl, own, HR0.out.1, by rw [put_zero]; exact HR0.out.2⟩
      case round =>
        obtain ⟨k, hk, rfl, HL⟩ := hrel
        by_cases hlt : k < s
        · have hb := byteOf_bd v k
          go_wp2_with fail
          obtain ⟨own', hS, hR⟩ := HL.out
          refine (ram_put' hR (o + k) (by omega) (byteOf v k) hb _ _ (by go_num) ?_).mono ?_
          · rw [← shr_byte]
          · rintro e w' ⟨rfl, own2, hS2, hR2⟩
            have HN := Lib.hid (And.intro (hS.trans hS2) hR2)
            clear hS hR hS2 hR2
            go_wp2
            exact ⟨⟨k + 1, by omega, by go_num, own2, HN.out.1, by rw [← setB_put]; exact HN.out.2⟩, by simp [intOf]; omega⟩
        · obtain rfl : k = s := by omega
          go_wp2
          go_ret
          exact ⟨rfl, HL.out⟩
    · have h2 : hasR base n addr size = false := by simpa using h2
      have hres : wrR base n m addr size v = m := by simp [wrR, h2]
      rw [hres, h2]
      go_enter Try.func24, Try.ntmps24
      go_wp2_with fail
      refine HW.out.mono ?_; rintro e w' ⟨rfl, rfl⟩; rw [h1]
      go_wp2_with fail
      refine HH.out.mono ?_; rintro e w' ⟨rfl, k0, rfl⟩; rw [h2]
      go_wp2
      go_ret
      exact ⟨by simp, own, (Step.refl _ _ _).drewN _, HR.out.drewN _⟩
  · have h1 : okS size = false := by simpa using h1
    have hres : wrR base n m addr size v = m := by simp [wrR, h1]
    rw [hres, h1]
    go_enter Try.func24, Try.ntmps24
    go_wp2_with fail
    refine HW.out.mono ?_; rintro e w' ⟨rfl, rfl⟩; rw [h1]
    go_wp2
    go_ret
    exact ⟨by simp, own, Step.refl _ _ _, HR.out⟩
theorem info_framep : (Try.prog.info? 111).map (fun i => (i.zero, i.size, i.bytes)) = some (some (.pointer none), 1, 8) := by kernel_rfl
theorem framep_make (n : Nat) (hn : n ≤ 1024) (w : World) : (Instr.makeSlice 105 (.int .i64 (n : Int)) (.int .i64 (n : Int))).run Try.prog w = .ok (.slice (some ⟨w.heap.size, 0, none⟩) n n) (w.alloc (.cells (Array.replicate n (.pointer none)) 111)) := by
  obtain ⟨ie, hi, hz, hs, hb⟩ := info_parts info_framep
  exact run_make1 w _ _ ie _ Try.underlying105 hi hz hs rfl _ _ n (by rw [hb]; omega) (by omega)
theorem ram_New (base n : Nat) (hb : base ≤ 4503599627370496) (hb2 : base % 4096 = 0) (hn : 1 ≤ n) (hn2 : n ≤ 1024) (own : Nat → Nat) (c : Nat) (w : World) :
    Calls Try.prog 34 #[.int .u64 (base : Int), .int .i64 (n : Int)] w fun e w' => ∃ p own', e = .returned (.tuple #[.pointer (some ⟨p, 0, none⟩), .int .i64 0]) ∧ Step (fun _ => False) own w own' w' ∧ MemAt ramK own' c w' p base n (fun _ => 0) ∧ w.heap.size ≤ p := by
  have hbz : (base : Int) % 4096 = 0 := by omega
  go_enter Try.func34, Try.ntmps34
  go_wp2_with ((with_reducible show wpList _ _ _ ((⟨some 23, _, _, _, _, _⟩ : Oper) :: _) _ _); refine wpList_make rfl _ _ _ rfl _ _ rfl rfl (framep_make n hn2 _) ?_)
  go_ret2
  have := MemIn.fresh ramK (own := own) (w := w) c base n hb hn hn2
  exact ⟨_, _, rfl, this.1, ⟨_, _, this.2, by simp⟩, by omega⟩
end Go.Proofs.Ytjhibbhinbdciaa
