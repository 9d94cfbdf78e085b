import Derived.Test.YtibhialnaibkjaaPciLaws
namespace Go.Proofs.Ytibhialnaibkjaa
set_option linter.unusedVariables false
open Go.RowKit
set_option maxRecDepth 100000

/-- 256 bytes that a row of cells holds -/
def BytesIn (c : Array Value) (f : Nat → Int) : Prop := c.size = 256 ∧ ∀ i, i < 256 → c[i]? = some (.int .u8 (f i))
/-- .. at block b -/
def BytesAt (w : World) (b : Nat) (f : Nat → Int) : Prop := ∃ c, Blk w b 5 c ∧ BytesIn c f

theorem ref_put {w : World} {b : Nat} {f : Nat → Int} (h : BytesAt w b f) (at_ size v : Int) (h1 : 0 ≤ size) (h2 : size ≤ 8) (h0 : 0 ≤ at_) (h3 : at_ + size ≤ 256) (hv : 0 ≤ v) (hv1 : v < 18446744073709551616) :
    Calls Try.prog 31 #[.slice (some ⟨b, 0, none⟩) 256 256, .int .i64 at_, .int .i64 size, .int .u64 v] w fun e w' => e = .returned (.tuple #[]) ∧
      BytesAt w' b (put f at_.toNat size.toNat v) ∧ Upd (· = b) w w' := by
  obtain ⟨j, rfl⟩ := Int.eq_ofNat_of_zero_le h0
  obtain ⟨s, rfl⟩ := Int.eq_ofNat_of_zero_le h1
  simp only [Int.toNat_natCast]
  have HB := Lib.hid h
  clear h
  go_enter Try.func31, Try.ntmps31
  go_wp2
  go_loopw [8] (fun i wr => ∃ (k : Nat), k ≤ s ∧ i = .int .i64 (k : Int) ∧ Hid (BytesAt wr b (put f j k v) ∧ Upd (· = b) w wr)) (fun i _ => s - (intOf i).toNat)
  case atStart => exact ⟨0, by omega, rfl, by rw [put_zero]; exact HB.out, Upd.refl _ _⟩
  case round =>
    obtain ⟨k, hk, rfl, HV⟩ := hrel
    by_cases hlt : k < s
    · obtain ⟨⟨c, hb, hs, hd⟩, hU⟩ := HV.out
      have hc := (hb.cell (j + k)).trans (hd (j + k) (by omega))
      have hz := hb.frozen (j + k)
      have HH := Lib.hid (And.intro hb (And.intro hs (And.intro hd hU)))
      clear hb hs hd hU
      go_wp2
      obtain ⟨hb, hs, hd, hU⟩ := HH.out
      refine ⟨⟨k + 1, by omega, by go_num, ⟨_, hb.set_ (j + k) _, by simpa using hs, ?_⟩, hU.setCell (p := ⟨b, _, none⟩) (.inl rfl) _⟩, by simp [intOf]; omega⟩
      intro i hi
      have hlen := lt_of_cell? (hd (j + k) (by omega))
      rw [put_succ, shr_byte]
      by_cases e : i = j + k
      · subst e; rw [if_pos rfl, getElem?_set_eq _ hlen]
      · rw [if_neg e, getElem?_set_ne _ (by omega)]; exact hd i hi
    · obtain rfl : k = s := by omega
      go_wp2
      go_end0
      exact ⟨rfl, HV.out⟩

theorem ref_get {w : World} {b : Nat} {f : Nat → Int} (h : BytesAt w b f) (hf : ∀ i, 0 ≤ f i ∧ f i < 256) (off size : Int) (h1 : 0 ≤ size) (h2 : size ≤ 4) (h0 : 0 ≤ off) (h3 : off + size ≤ 256) :
    Calls Try.prog 29 #[.slice (some ⟨b, 0, none⟩) 256 256, .int .i64 off, .int .i64 size] w fun e w' => e = .returned (.int .u64 (num f off.toNat size.toNat)) ∧ w = w' := by
  obtain ⟨j, rfl⟩ := Int.eq_ofNat_of_zero_le h0
  obtain ⟨s, rfl⟩ := Int.eq_ofNat_of_zero_le h1
  simp only [Int.toNat_natCast]
  have HB := Lib.hid h
  clear h
  go_enter Try.func29, Try.ntmps29
  go_wp2
  go_loop [7, 8] (fun v i => ∃ (k : Nat), k ≤ s ∧ v = .int .u64 (num f (j + k) (s - k)) ∧ i = .int .i64 ((k : Int) - 1)) (fun _ i => (intOf i + 1).toNat)
  case atStart => exact ⟨s, by omega, by simp [num], rfl⟩
  case round =>
    obtain ⟨k, hk, rfl, rfl⟩ := hrel
    rcases k with _ | k
    · have h : ¬ (0 : Int) ≤ ((0 : Nat) : Int) - 1 := by omega
      go_wp2
      go_ret
      simp
    · obtain ⟨c, hb, hs, hd⟩ := HB.out
      have hy := (hb.cell (j + k)).trans (hd (j + k) (by omega))
      obtain ⟨hy0, hy1⟩ := hf (j + k)
      have HX := Lib.hid (show num f (j + k) (s - k) = f (j + k) + 256 * num f (j + (k + 1)) (s - (k + 1)) from by
        rw [show s - k = (s - (k + 1)) + 1 from by omega]; rfl)
      have hx0 := num_nonneg hf (s - (k + 1)) (j + (k + 1))
      have hx1 := num_lt7 hf (j + (k + 1)) (n := s - (k + 1)) (by omega)
      clear hb hs hd
      generalize num f (j + (k + 1)) (s - (k + 1)) = x at *
      rw [show (((k + 1 : Nat) : Int) - 1) = (k : Int) from by omega]
      go_wp2
      go_round
      case rel =>
        refine ⟨k, by omega, ?_, rfl⟩
        rw [HX.out]; congr 1; omega
      case measure => simp [intOf]

theorem ref_right (off size : Int) (h0 : 0 ≤ off) (h1 : off < 18446744073709551616) (w : World) :
    Calls Try.prog 28 #[.int .u64 off, .int .i64 size] w fun e w' => e = .returned (.bool (fitsZ off size)) ∧ w = w' := by
  go_enter Try.func28, Try.ntmps28
  go_wp2
  all_goals go_ret
  all_goals (refine ⟨?_, rfl⟩; simp_all [fitsZ] <;> omega)

theorem info_u8 : (Try.prog.info? 5).map (fun i => (i.zero, i.size, i.bytes)) = some (some (.int .u8 0), 1, 1) := by kernel_rfl
theorem bytes_made {w : World} {B b n : Nat} {e : TypeId} (h : w.ownsRow B e 1 (.slice (some ⟨b, 0, none⟩) n n) n (madeCells #[.int .u8 0] n).toList) : ∃ c, Blk w b e c ∧ c.size = n ∧ ∀ i, i < n → c[i]? = some (.int .u8 0) := by
  rw [toList_madeCells_one] at h
  rcases h.2 with ⟨hv, _⟩ | ⟨g, cap, cur, hv, _, hb, _, _, hs, ht⟩
  · cases hv
  · cases hv
    refine ⟨cur, hb, by omega, fun i hi => ?_⟩
    have : (cur.toList.take (n * 1))[i]? = some (.int .u8 0) := by rw [ht]; simp [hi]
    rw [List.getElem?_take, if_pos (by omega)] at this
    simpa using this
theorem Sl.bds {s : Sl} (h : s.wf) : (0 ≤ s.kind ∧ s.kind < 256) ∧ (0 ≤ s.cmd ∧ s.cmd ≤ 6) ∧ (0 ≤ s.base ∧ s.base < 4294967296) ∧ (0 ≤ s.line ∧ s.line < 256) := by
  obtain ⟨a, b, c, d⟩ := h
  refine ⟨a, by omega, ⟨c.1, c.2.1⟩, d⟩
set_option maxHeartbeats 1000000 in
theorem ref_bytes (s : Sl) (hwf : s.wf) (w : World) :
    Calls Try.prog 30 #[.agg #[.int .i64 s.kind, .int .u64 s.cmd, .int .u64 s.base, .int .u64 s.line]] w fun e w' =>
      ∃ b, e = .returned (.slice (some ⟨b, 0, none⟩) 256 256) ∧ BytesAt w' b (devF s) ∧ w.heap.size ≤ b ∧ Upd (fun _ => False) w w' := by
  obtain ⟨ie, hie, hiz, his, hib⟩ := info_parts info_u8
  obtain ⟨⟨h1, h2⟩, ⟨h3, h4⟩, ⟨h5, h6⟩, h7, h8⟩ := Sl.bds hwf
  have HD := Lib.hid (show devF s = put (put (put (put (put (put (put (put (put (put (put (put (put zf 0 2 6900) 2 2 (4160 + s.kind)) 4 2 s.cmd) 6 2 16) 8 4 4278190081) 16 4 s.base) 44 2 6900) 46 2 s.kind) 52 1 64) 60 1 s.line) 61 1 1) 64 4 17846281) 80 4 34603017 from rfl)
  clear hwf
  generalize s.kind = kd at *
  generalize s.cmd = cmd at *
  generalize s.base = bs at *
  generalize s.line = ln at *
  go_enter Try.func30, Try.ntmps30
  go_wp2_with ((with_reducible show wpList _ _ _ ((⟨some 4, _, _, _, _, _⟩ : Oper) :: _) _ _); refine wpList_make_full _ rfl _ _ _ rfl w.heap.size 5 ie _ 1 Try.underlying70 hie hiz his .i64 .i64 256 256 256 rfl rfl rfl rfl (by rw [hib]; omega) (by unfold maxLen; omega) (by simp) ?_)
  intro w1 hown hg
  have hbx : Blk w1 w.heap.size 68 #[.int .i64 kd, .int .u64 cmd, .int .u64 bs, .int .u64 ln] := (Blk.new w _ _).grown hg (by simp)
  have hb : BytesAt w1 (w.heap.size + 1) zf := by
    obtain ⟨c, hc, hs, hd⟩ := bytes_made hown
    refine ⟨c, by simpa using hc, hs, hd⟩
  have HU := Lib.hid (show Upd (· = w.heap.size + 1) w w1 from ((Upd.refl _ _).alloc _).grown hg (fun k e => by cases e))
  clear hown hg
  go_wp2_with fail
  refine (ref_put hb 0 2 6900 (by omega) (by omega) (by omega) (by omega) (by omega) (by omega)).mono ?_; clear hb; rintro e w2 ⟨rfl, hb, hU⟩
  have HU := Lib.hid (HU.out.trans hU)
  have hbx := hbx.upd hU (by omega)
  clear hU
  have c0 := hbx.cell 0
  have c1 := hbx.cell 1
  have c2 := hbx.cell 2
  have c3 := hbx.cell 3
  simp only [List.getElem?_toArray, List.getElem?_cons_zero, List.getElem?_cons_succ] at c0 c1 c2 c3
  go_wp2_with fail
  refine (ref_put hb 2 2 (4160 + kd) (by omega) (by omega) (by omega) (by omega) (by omega) (by omega)).mono ?_; clear hb; rintro e w3 ⟨rfl, hb, hU⟩
  have HU := Lib.hid (HU.out.trans hU)
  have hbx := hbx.upd hU (by omega)
  clear hU
  have c0 := hbx.cell 0
  have c1 := hbx.cell 1
  have c2 := hbx.cell 2
  have c3 := hbx.cell 3
  simp only [List.getElem?_toArray, List.getElem?_cons_zero, List.getElem?_cons_succ] at c0 c1 c2 c3
  go_wp2_with fail
  refine (ref_put hb 4 2 cmd (by omega) (by omega) (by omega) (by omega) (by omega) (by omega)).mono ?_; clear hb; rintro e w4 ⟨rfl, hb, hU⟩
  have HU := Lib.hid (HU.out.trans hU)
  have hbx := hbx.upd hU (by omega)
  clear hU
  have c0 := hbx.cell 0
  have c1 := hbx.cell 1
  have c2 := hbx.cell 2
  have c3 := hbx.cell 3
  simp only [List.getElem?_toArray, List.getElem?_cons_zero, List.getElem?_cons_succ] at c0 c1 c2 c3
  go_wp2_with fail
  refine (ref_put hb 6 2 16 (by omega) (by omega) (by omega) (by omega) (by omega) (by omega)).mono ?_; clear hb; rintro e w5 ⟨rfl, hb, hU⟩
  have HU := Lib.hid (HU.out.trans hU)
  have hbx := hbx.upd hU (by omega)
  clear hU
  have c0 := hbx.cell 0
  have c1 := hbx.cell 1
  have c2 := hbx.cell 2
  have c3 := hbx.cell 3
  simp only [List.getElem?_toArray, List.getElem?_cons_zero, List.getElem?_cons_succ] at c0 c1 c2 c3
  go_wp2_with fail
  refine (ref_put hb 8 4 4278190081 (by omega) (by omega) (by omega) (by omega) (by omega) (by omega)).mono ?_; clear hb; rintro e w6 ⟨rfl, hb, hU⟩
  have HU := Lib.hid (HU.out.trans hU)
  have hbx := hbx.upd hU (by omega)
  clear hU
  have c0 := hbx.cell 0
  have c1 := hbx.cell 1
  have c2 := hbx.cell 2
  have c3 := hbx.cell 3
  simp only [List.getElem?_toArray, List.getElem?_cons_zero, List.getElem?_cons_succ] at c0 c1 c2 c3
  go_wp2_with fail
  refine (ref_put hb 16 4 bs (by omega) (by omega) (by omega) (by omega) (by omega) (by omega)).mono ?_; clear hb; rintro e w7 ⟨rfl, hb, hU⟩
  have HU := Lib.hid (HU.out.trans hU)
  have hbx := hbx.upd hU (by omega)
  clear hU
  have c0 := hbx.cell 0
  have c1 := hbx.cell 1
  have c2 := hbx.cell 2
  have c3 := hbx.cell 3
  simp only [List.getElem?_toArray, List.getElem?_cons_zero, List.getElem?_cons_succ] at c0 c1 c2 c3
  go_wp2_with fail
  refine (ref_put hb 44 2 6900 (by omega) (by omega) (by omega) (by omega) (by omega) (by omega)).mono ?_; clear hb; rintro e w8 ⟨rfl, hb, hU⟩
  have HU := Lib.hid (HU.out.trans hU)
  have hbx := hbx.upd hU (by omega)
  clear hU
  have c0 := hbx.cell 0
  have c1 := hbx.cell 1
  have c2 := hbx.cell 2
  have c3 := hbx.cell 3
  simp only [List.getElem?_toArray, List.getElem?_cons_zero, List.getElem?_cons_succ] at c0 c1 c2 c3
  go_wp2_with fail
  refine (ref_put hb 46 2 kd (by omega) (by omega) (by omega) (by omega) (by omega) (by omega)).mono ?_; clear hb; rintro e w9 ⟨rfl, hb, hU⟩
  have HU := Lib.hid (HU.out.trans hU)
  have hbx := hbx.upd hU (by omega)
  clear hU
  have c0 := hbx.cell 0
  have c1 := hbx.cell 1
  have c2 := hbx.cell 2
  have c3 := hbx.cell 3
  simp only [List.getElem?_toArray, List.getElem?_cons_zero, List.getElem?_cons_succ] at c0 c1 c2 c3
  go_wp2_with fail
  refine (ref_put hb 52 1 64 (by omega) (by omega) (by omega) (by omega) (by omega) (by omega)).mono ?_; clear hb; rintro e w10 ⟨rfl, hb, hU⟩
  have HU := Lib.hid (HU.out.trans hU)
  have hbx := hbx.upd hU (by omega)
  clear hU
  have c0 := hbx.cell 0
  have c1 := hbx.cell 1
  have c2 := hbx.cell 2
  have c3 := hbx.cell 3
  simp only [List.getElem?_toArray, List.getElem?_cons_zero, List.getElem?_cons_succ] at c0 c1 c2 c3
  go_wp2_with fail
  refine (ref_put hb 60 1 ln (by omega) (by omega) (by omega) (by omega) (by omega) (by omega)).mono ?_; clear hb; rintro e w11 ⟨rfl, hb, hU⟩
  have HU := Lib.hid (HU.out.trans hU)
  have hbx := hbx.upd hU (by omega)
  clear hU
  have c0 := hbx.cell 0
  have c1 := hbx.cell 1
  have c2 := hbx.cell 2
  have c3 := hbx.cell 3
  simp only [List.getElem?_toArray, List.getElem?_cons_zero, List.getElem?_cons_succ] at c0 c1 c2 c3
  go_wp2_with fail
  refine (ref_put hb 61 1 1 (by omega) (by omega) (by omega) (by omega) (by omega) (by omega)).mono ?_; clear hb; rintro e w12 ⟨rfl, hb, hU⟩
  have HU := Lib.hid (HU.out.trans hU)
  have hbx := hbx.upd hU (by omega)
  clear hU
  have c0 := hbx.cell 0
  have c1 := hbx.cell 1
  have c2 := hbx.cell 2
  have c3 := hbx.cell 3
  simp only [List.getElem?_toArray, List.getElem?_cons_zero, List.getElem?_cons_succ] at c0 c1 c2 c3
  go_wp2_with fail
  refine (ref_put hb 64 4 17846281 (by omega) (by omega) (by omega) (by omega) (by omega) (by omega)).mono ?_; clear hb; rintro e w13 ⟨rfl, hb, hU⟩
  have HU := Lib.hid (HU.out.trans hU)
  have hbx := hbx.upd hU (by omega)
  clear hU
  have c0 := hbx.cell 0
  have c1 := hbx.cell 1
  have c2 := hbx.cell 2
  have c3 := hbx.cell 3
  simp only [List.getElem?_toArray, List.getElem?_cons_zero, List.getElem?_cons_succ] at c0 c1 c2 c3
  go_wp2_with fail
  refine (ref_put hb 80 4 34603017 (by omega) (by omega) (by omega) (by omega) (by omega) (by omega)).mono ?_; clear hb; rintro e w14 ⟨rfl, hb, hU⟩
  have HU := Lib.hid (HU.out.trans hU)
  have hbx := hbx.upd hU (by omega)
  clear hU
  have c0 := hbx.cell 0
  have c1 := hbx.cell 1
  have c2 := hbx.cell 2
  have c3 := hbx.cell 3
  simp only [List.getElem?_toArray, List.getElem?_cons_zero, List.getElem?_cons_succ] at c0 c1 c2 c3
  go_wp2
  go_ret
  exact ⟨_, rfl, by rw [HD.out]; exact hb, by omega, HU.out.mono (fun i hi e => by omega)⟩
end Go.Proofs.Ytibhialnaibkjaa
