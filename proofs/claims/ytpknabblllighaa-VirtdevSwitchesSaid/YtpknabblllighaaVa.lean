import Derived.Test.YtpknabblllighaaVs3
/- citadellaw14.awake. -/
namespace Go.Proofs.Ytpknabblllighaa
set_option linter.unusedVariables false
set_option linter.unusedSimpArgs false
open Go.RowKit Go.Maps
set_option maxRecDepth 100000
theorem Blk.to {w : World} {g : Nat} {t : TypeId} {cs cs' : Array Value} (h : Blk w g t cs) (e : cs = cs') : Blk w g t cs' := e ▸ h
def queC : Array Value := #[.bool false, .bool false, .int .u64 0, .int .u64 0, .int .u64 0, .int .u64 0, .int .u16 0, .int .u16 0]
/-- a disk that nothing was done to -/
def devC (dv rv : Value) : Array Value := #[.int .i64 2, dv, .slice none 0 0, .slice none 0 0, .slice none 0 0, .slice none 0 0, .int .u32 0, .int .u32 0, .int .u32 0, .int .u32 0, .int .u32 0, .int .u32 0, .int .u32 0, rv, .int .u32 0, .int .i32 0, .int .u32 0, .map none]
set_option maxHeartbeats 2000000 in
theorem dev_reset {w : World} {p : Nat} {dv : Value} (hb : Blk w p 74 (devC dv (.slice none 0 0))) :
    Calls Try.prog 17 #[.pointer (some ⟨p, 0, none⟩)] w fun e w' => e = .returned (.tuple #[]) ∧ Upd (· = p) w w' ∧ ∃ r q, Blk w' p 74 (devC dv (.slice (some ⟨r, 0, none⟩) 1 1)) ∧ Blk w' r 77 #[.pointer (some ⟨q, 0, none⟩)] := by
  have c0 := hb.cell 0
  have c4 := hb.cell 4
  have c5 := hb.cell 5
  have c6 := hb.cell 6
  have c7 := hb.cell 7
  have c8 := hb.cell 8
  have c9 := hb.cell 9
  have c12 := hb.cell 12
  have c13 := hb.cell 13
  have f0 := hb.frozen 0
  have f4 := hb.frozen 4
  have f5 := hb.frozen 5
  have f6 := hb.frozen 6
  have f7 := hb.frozen 7
  have f8 := hb.frozen 8
  have f9 := hb.frozen 9
  have f12 := hb.frozen 12
  have f13 := hb.frozen 13
  simp only [devC, List.getElem?_toArray, List.getElem?_cons_zero, List.getElem?_cons_succ] at c0 c4 c5 c6 c7 c8 c9 c12 c13
  have HB := Lib.hid hb
  clear hb
  go_enter Try.func17, Try.ntmps17
  go_upto_region 1 with fail
  go_cut [] (fun wx => Hid (Blk wx p 74 (devC dv (.slice none 0 0)) ∧ Upd (· = p) w wx))
  case first =>
    go_wp2
    go_meet
    refine ⟨?_, ?_⟩
    · have h := ((((((HB.out.set_ 4 (.slice none 0 0)).set_ 5 (.slice none 0 0)).set_ 6 (.int .u32 0)).set_ 7 (.int .u32 0)).set_ 8 (.int .u32 0)).set_ 9 (.int .u32 0)).set_ 12 (.int .u32 0)
      exact h.to (by kernel_rfl)
    · exact (((((((Upd.refl (· = p) w).setCell (p := ⟨p, 4, none⟩) (.inl rfl) _).setCell (p := ⟨p, 5, none⟩) (.inl rfl) _).setCell (p := ⟨p, 6, none⟩) (.inl rfl) _).setCell (p := ⟨p, 7, none⟩) (.inl rfl) _).setCell (p := ⟨p, 8, none⟩) (.inl rfl) _).setCell (p := ⟨p, 9, none⟩) (.inl rfl) _).setCell (p := ⟨p, 12, none⟩) (.inl rfl) _
  case rest =>
    have h1 := hcut.out.1
    have hU := Lib.hid hcut.out.2
    clear hcut c0 c4 c5 c6 c7 c8 c9 c12 c13 f0 f4 f5 f6 f7 f8 f9 f12 f13 HB
    have HB := Lib.hid h1
    have c10 := h1.cell 10
    have c11 := h1.cell 11
    have f10 := h1.frozen 10
    have f11 := h1.frozen 11
    have hlt := h1.lt
    simp only [devC, List.getElem?_toArray, List.getElem?_cons_zero, List.getElem?_cons_succ] at c10 c11
    have h2 : Blk ((wc.setCell ⟨p, 10, none⟩ (.int .u32 0)).setCell ⟨p, 11, none⟩ (.int .u32 0)) p 74 (devC dv (.slice none 0 0)) := ((h1.set_ 10 (.int .u32 0)).set_ 11 (.int .u32 0)).to (by kernel_rfl)
    have u2 : Upd (· = p) wc ((wc.setCell ⟨p, 10, none⟩ (.int .u32 0)).setCell ⟨p, 11, none⟩ (.int .u32 0)) := ((Upd.refl (· = p) wc).setCell (p := ⟨p, 10, none⟩) (.inl rfl) _).setCell (p := ⟨p, 11, none⟩) (.inl rfl) _
    have h3 : Blk (((((wc.setCell ⟨p, 10, none⟩ (.int .u32 0)).setCell ⟨p, 11, none⟩ (.int .u32 0)).alloc (.cells queC 85)).alloc (.cells #[.pointer (some ⟨wc.heap.size, 0, none⟩), .int .u32 0, .int .u64 0, .int .u64 0, .int .u64 0] 81)).alloc (.cells #[.pointer (some ⟨wc.heap.size + 1, 0, none⟩)] 77)) p 74 (devC dv (.slice none 0 0)) := ((h2.alloc _).alloc _).alloc _
    have u3 : Upd (· = p) wc (((((wc.setCell ⟨p, 10, none⟩ (.int .u32 0)).setCell ⟨p, 11, none⟩ (.int .u32 0)).alloc (.cells queC 85)).alloc (.cells #[.pointer (some ⟨wc.heap.size, 0, none⟩), .int .u32 0, .int .u64 0, .int .u64 0, .int .u64 0] 81)).alloc (.cells #[.pointer (some ⟨wc.heap.size + 1, 0, none⟩)] 77)) := ((u2.alloc _).alloc _).alloc _
    have r3 : Blk (((((wc.setCell ⟨p, 10, none⟩ (.int .u32 0)).setCell ⟨p, 11, none⟩ (.int .u32 0)).alloc (.cells queC 85)).alloc (.cells #[.pointer (some ⟨wc.heap.size, 0, none⟩), .int .u32 0, .int .u64 0, .int .u64 0, .int .u64 0] 81)).alloc (.cells #[.pointer (some ⟨wc.heap.size + 1, 0, none⟩)] 77)) (wc.heap.size + 1 + 1) 77 #[.pointer (some ⟨wc.heap.size + 1, 0, none⟩)] := by
      have := Blk.new ((((wc.setCell ⟨p, 10, none⟩ (.int .u32 0)).setCell ⟨p, 11, none⟩ (.int .u32 0)).alloc (.cells queC 85)).alloc (.cells #[.pointer (some ⟨wc.heap.size, 0, none⟩), .int .u32 0, .int .u64 0, .int .u64 0, .int .u64 0] 81)) 77 #[.pointer (some ⟨wc.heap.size + 1, 0, none⟩)]
      rwa [World.size_alloc, World.size_alloc, World.size_setCell, World.size_setCell] at this
    have hW2 : ∃ W2, W2 = (((((wc.setCell ⟨p, 10, none⟩ (.int .u32 0)).setCell ⟨p, 11, none⟩ (.int .u32 0)).alloc (.cells queC 85)).alloc (.cells #[.pointer (some ⟨wc.heap.size, 0, none⟩), .int .u32 0, .int .u64 0, .int .u64 0, .int .u64 0] 81)).alloc (.cells #[.pointer (some ⟨wc.heap.size + 1, 0, none⟩)] 77)) := ⟨_, rfl⟩
    have c0 := h3.cell 0
    have c13 := h3.cell 13
    have f13 := h3.frozen 13
    have hd0 : (((((((wc.setCell ⟨p, 10, none⟩ (.int .u32 0)).setCell ⟨p, 11, none⟩ (.int .u32 0)).alloc (.cells queC 85)).alloc (.cells #[.pointer (some ⟨wc.heap.size, 0, none⟩), .int .u32 0, .int .u64 0, .int .u64 0, .int .u64 0] 81)).alloc (.cells #[.pointer (some ⟨wc.heap.size + 1, 0, none⟩)] 77))).setCell ⟨p, 13, none⟩ (.slice (some ⟨wc.heap.size + 1 + 1, 0, none⟩) 1 1)).cell? ⟨p, 0, none⟩ = some (.int .i64 2) := by
      rw [(h3.set_ 13 _).cell]; rfl
    simp only [devC, queC, List.getElem?_toArray, List.getElem?_cons_zero, List.getElem?_cons_succ] at c0 c13 f13 hd0
    have H3 := Lib.hid (And.intro h3 (And.intro u3 r3))
    clear h1 h2 u2 h3 u3 r3 HB hW2
    go_wp2
    go_end0
    have hne : wc.heap.size + 1 + 1 ≠ p := by omega
    exact ⟨rfl, hU.out.trans (H3.out.2.1.setCell (p := ⟨p, 13, none⟩) (.inl rfl) _), _, _, (H3.out.1.set_ 13 _).to (by kernel_rfl), H3.out.2.2.far hne _⟩
theorem dev_ring {w : World} {p r : Nat} {dv : Value} {v : Value} (hb : Blk w p 74 (devC dv (.slice (some ⟨r, 0, none⟩) 1 1))) (hr : Blk w r 77 #[v]) :
    Calls Try.prog 21 #[.pointer (some ⟨p, 0, none⟩), .int .u32 0] w fun e w' => e = .returned v ∧ w' = w := by
  have c13 := hb.cell 13
  have r0 := hr.cell 0
  simp only [devC, List.getElem?_toArray, List.getElem?_cons_zero, List.getElem?_cons_succ] at c13 r0
  clear hb hr
  go_enter Try.func21, Try.ntmps21
  go_wp2
  go_ret
  exact ⟨rfl, rfl⟩
theorem dev_Read {w : World} {p r : Nat} {A : Option Addr} {cap : Nat} {v : Value} (hb : Blk w p 74 (devC (.slice A 512 cap) (.slice (some ⟨r, 0, none⟩) 1 1))) (hr : Blk w r 77 #[v]) :
    Calls Try.prog 15 #[.pointer (some ⟨p, 0, none⟩), .int .u64 256, .int .i64 4] w fun e w' => e = .returned (.tuple #[.int .u64 1, .bool true]) ∧ w' = w := by
  have HR := Lib.hid (dev_ring hb hr)
  have c1 := hb.cell 1
  have c9 := hb.cell 9
  simp only [devC, List.getElem?_toArray, List.getElem?_cons_zero, List.getElem?_cons_succ] at c1 c9
  clear hb hr
  go_enter Try.func15, Try.ntmps15
  go_wp2_with (first | (go_at_call 21; (with_reducible refine HR.out.mono ?_); rintro e w1 ⟨rfl, rfl⟩) | go_in)
  go_ret2
  exact ⟨rfl, rfl⟩
theorem info_u8v : (Try.prog.info? 5).map (fun i => (i.zero, i.size, i.bytes)) = some (some (.int .u8 0), 1, 1) := by kernel_rfl
theorem u8_makeV (n : Nat) (hn : n ≤ 4194304) (w : World) : (Instr.makeSlice 34 (.int .i64 (n : Int)) (.int .i64 (n : Int))).run Try.prog w = .ok (.slice (some ⟨w.heap.size, 0, none⟩) n n) (w.alloc (.cells (Array.replicate n (.int .u8 0)) 5)) := by
  obtain ⟨ie, hi, hz, hs, hb⟩ := info_parts info_u8v
  exact run_make1 (P := Try.prog) w 34 5 ie _ Try.underlying34 hi hz hs rfl .i64 .i64 n (by rw [hb]; omega) (by omega)
set_option maxHeartbeats 1000000 in
theorem dev_New (w : World) (A : Option Addr) (cap : Nat) (bs : List Value) (hr : Reads w w.heap.size 1 A 512 bs) (h1 : ∀ u ∈ bs, u.oneCell' = true) :
    Calls Try.prog 14 #[.int .i64 2, .slice A 512 cap] w fun e w' => ∃ p, e = .returned (.tuple #[.pointer (some ⟨p, 0, none⟩), .int .i64 0]) ∧ Upd (fun _ => False) w w' ∧ ∃ r q A' cap', Blk w' p 74 (devC (.slice A' 512 cap') (.slice (some ⟨r, 0, none⟩) 1 1)) ∧ Blk w' r 77 #[.pointer (some ⟨q, 0, none⟩)] := by
  obtain ⟨i, hi, hz, hs, hby⟩ := info_parts info_u8v
  have HI := Lib.hid (And.intro hi (And.intro hz (And.intro hs hby)))
  have HRD := Lib.hid hr
  clear hi hz hs hby hr
  go_enter Try.func14, Try.ntmps14
  go_wp2_with ((with_reducible show wpList _ _ _ ((⟨some 39, _, _, _, _, _⟩ : Oper) :: _) _ _); refine wpList_append_rw rfl (.const (.slice none 0 0)) (.tmp 38) _ rfl 5 i _ 1 1 Try.underlying34 HI.out.1 HI.out.2.1 HI.out.2.2.1 HI.out.2.2.2 rfl (by omega) (own := up1 (fun _ => 0) w) (d := 0) (.slice none 0 0) 0 [] rfl (Rw.nil _ _ _ _ _) w.heap.size A 512 cap bs rfl HRD.out h1 (by unfold maxLen; omega) (by omega) ?_)
  intro v2 w5 hst5 hrow5
  have hU5 := up1_upd hst5
  obtain ⟨A2, cap2, rfl, _⟩ := hrow5.form
  have hbn : Blk (w5.alloc (.cells #[.int .i64 2, .slice A2 512 cap2, .slice none 0 0, .slice none 0 0, .slice none 0 0, .slice none 0 0, .int .u32 0, .int .u32 0, .int .u32 0, .int .u32 0, .int .u32 0, .int .u32 0, .int .u32 0, .slice none 0 0, .int .u32 0, .int .i32 0, .int .u32 0, .map none] 74)) w5.heap.size 74 (devC (.slice A2 512 cap2) (.slice none 0 0)) := Blk.new w5 74 _
  have HD := Lib.hid (dev_reset hbn)
  have H5 := Lib.hid (hU5.alloc (.cells #[.int .i64 2, .slice A2 512 cap2, .slice none 0 0, .slice none 0 0, .slice none 0 0, .slice none 0 0, .int .u32 0, .int .u32 0, .int .u32 0, .int .u32 0, .int .u32 0, .int .u32 0, .int .u32 0, .slice none 0 0, .int .u32 0, .int .i32 0, .int .u32 0, .map none] 74))
  have hlt := hU5.size
  clear hst5 hrow5 hU5 HRD HI hbn
  go_wp2_with (go_at_call 17; (with_reducible refine HD.out.mono ?_); rintro e w6 ⟨rfl, hU6, r, q, hb6, hr6⟩)
  have H6 := Lib.hid (And.intro (H5.out.trans' hU6 (fun i hi e => by omega)) (And.intro hb6 hr6))
  clear HD H5 hU6 hb6 hr6 hlt
  go_wp2
  go_ret2
  exact ⟨_, rfl, H6.out.1, _, _, _, _, H6.out.2⟩
/-- the frame that awake sends -/
def awB : List Int := 255 :: List.replicate 19 0
theorem awB_cells : (awB.map (fun b => Value.int .u8 b)).toArray = (Array.replicate 20 (Value.int .u8 0)).setIfInBounds 0 (.int .u8 255) := by kernel_rfl
theorem reads_blk {w : World} {b : Nat} {t : TypeId} {l : List Value} {n : Nat} (h : Blk w b t l.toArray) (hn : l.length = n) : Reads w w.heap.size 1 (some ⟨b, 0, none⟩) n l := by
  refine ⟨by rw [hn]; omega, fun _ => ⟨_, rfl, h.lt, fun j u hu => ?_⟩⟩
  rw [show (⟨b, 0, none⟩ : Addr).add j = ⟨b, j, none⟩ from by unfold Addr.add; split <;> simp_all, h.cell]
  simpa using hu
set_option maxHeartbeats 2000000 in
theorem awake14 (w : World) : Calls Try.prog 7 #[] w fun x w' => x = .returned (.bool true) ∧ Upd (fun _ => False) w w' := by
  have hb0 : Blk (w.alloc (.cells (Array.replicate 512 (.int .u8 0)) 5)) w.heap.size 5 (List.replicate 512 (Value.int .u8 0)).toArray := by
    have := Blk.new w 5 (Array.replicate 512 (.int .u8 0))
    rwa [← List.toArray_replicate] at this
  have HN := Lib.hid (dev_New _ (some ⟨w.heap.size, 0, none⟩) 512 _ (reads_blk hb0 (List.length_replicate)) (fun u hu => by rw [List.eq_of_mem_replicate hu]; rfl))
  have hU0 := Lib.hid ((Upd.refl (fun _ => False) w).alloc (.cells (Array.replicate 512 (.int .u8 0)) 5))
  clear hb0
  go_enter Try.func7, Try.ntmps7
  go_wp2_with ((with_reducible show wpList _ _ _ ((⟨some 9, _, _, _, _, _⟩ : Oper) :: _) _ _); refine wpList_make rfl _ _ _ rfl _ _ rfl rfl (u8_makeV 512 (by decide) _) ?_)
  ((with_reducible refine HN.out.mono ?_); rintro e w1 ⟨p, rfl, hU1, r, q, A', cap', hd, hr⟩)
  have HRd := Lib.hid (dev_Read hd hr)
  have hs := NewSwitch_yes (fun _ => 0) 1 3 (by decide) w1
  rw [show ((3 : Nat) : Int) = 3 from rfl] at hs
  have HS := Lib.hid hs
  clear hs
  have HU := Lib.hid (hU0.out.trans hU1)
  clear hU1 hd hr HN hU0
  go_wp2_with fail
  ((with_reducible refine HRd.out.mono ?_); rintro e wz ⟨rfl, rfl⟩)
  clear HRd
  go_wp2_with fail
  ((with_reducible refine HS.out.mono ?_); rintro e w2 ⟨s, rfl, own2, hS2, hA2⟩)
  have HU2 := Lib.hid (HU.out.trans (hS2.upd.mono (fun _ _ h => h.elim)))
  have HO := Lib.hid (fun (i : Nat) (hi : i < w.heap.size) => (ext_old own2 w2 5 (Nat.lt_of_lt_of_le hi HU2.out.size)).trans (hS2.old i (Nat.lt_of_lt_of_le hi HU.out.size)))
  clear HS HU
  have hz0 := (Blk.new w2 5 (Array.replicate 20 (.int .u8 0))).cell 0
  rw [show (Array.replicate 20 (Value.int .u8 0))[0]? = some (.int .u8 0) from rfl] at hz0
  have hf0 := (Blk.new w2 5 (Array.replicate 20 (.int .u8 0))).frozen 0
  have hst : Step (fun _ => False) own2 w2 (ext own2 w2 5) (w2.alloc (.cells ((Array.replicate 20 (.int .u8 0)).setIfInBounds 0 (.int .u8 255)) 5)) := ⟨(Upd.refl _ _).alloc _, fun b hb => ext_old _ _ _ hb⟩
  have hA4 := hA2.step hst (fun h => h)
  have hb4 := Blk.new w2 5 ((Array.replicate 20 (.int .u8 0)).setIfInBounds 0 (.int .u8 255))
  have hU4 := HU2.out.alloc (.cells ((Array.replicate 20 (.int .u8 0)).setIfInBounds 0 (.int .u8 255)) 5)
  have hse := sw_Send hA4 (by decide) 0 (by decide) (some ⟨w2.heap.size, 0, none⟩) 20 20 awB (reads_blk (hb4.to awB_cells.symm) (by rw [List.length_map]; rfl)) (by decide) (by decide) (by decide) (by decide) (fun k q h => by cases h) (by decide) 0 _ _ rfl rfl rfl 2 (by decide)
  rw [show ((0 : Nat) : Int) = 0 from rfl] at hse
  have HSe := Lib.hid hse
  have HU4 := Lib.hid hU4
  clear hst hA4 hb4 hU4 hS2 hA2 HU2 hse
  go_wp2_with ((with_reducible show wpList _ _ _ ((⟨some 28, _, _, _, _, _⟩ : Oper) :: _) _ _); refine wpList_make rfl _ _ _ rfl _ _ rfl rfl (u8_makeV 20 (by decide) _) ?_)
  ((with_reducible refine HSe.out.mono ?_); rintro e w5 ⟨v, own5, rfl, hS5, hA5, hR5⟩)
  have hU5 := HU4.out.trans' hS5.upd (fun i hi e => by have := HO.out i hi; rw [this] at e; cases e)
  rw [show (outS 3 0 ((learnS sw0 0 (List.take 6 (List.drop 6 awB)) 0).kn (List.take 6 awB))).length = 2 from by decide] at hR5
  obtain ⟨A5, cap5, rfl, _⟩ := hR5.form
  clear HSe HU4 HO hS5 hA5 hR5 hz0 hf0
  go_wp2
  go_ret
  exact ⟨rfl, hU5⟩
end Go.Proofs.Ytpknabblllighaa
