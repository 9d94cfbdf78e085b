import Derived.Test.YtjhibbhinbdciaaRam2
/- The document's memory (citadelref03.M), and both of them (citadellaw00). -/
namespace Go.Proofs.Ytjhibbhinbdciaa
set_option linter.unusedVariables false
open Go.RowKit
set_option maxRecDepth 100000

/-- a frame's bytes, nil let in -/
def slV : Option Nat → Value
  | none => .slice none 0 0
  | some b => .slice (some ⟨b, 0, none⟩) 4096 4096
def refK : MK := ⟨95, 56, 5, fun base q n => #[.int .u64 (base : Int), .int .i64 (n : Int), .slice (some ⟨q, 0, none⟩) n n], slV, by decide, by decide, by decide⟩
theorem info_bytes : (Try.prog.info? 56).map (fun i => (i.zero, i.size, i.bytes)) = some (some (.slice none 0 0), 1, 24) := by kernel_rfl
theorem bytes_make (n : Nat) (hn : n ≤ 1024) (w : World) : (Instr.makeSlice 93 (.int .i64 (n : Int)) (.int .i64 (n : Int))).run Try.prog w = .ok (.slice (some ⟨w.heap.size, 0, none⟩) n n) (w.alloc (.cells (Array.replicate n (.slice none 0 0)) 56)) := by
  obtain ⟨ie, hi, hz, hs, hb⟩ := info_parts info_bytes
  exact run_make1 w _ _ ie _ Try.underlying93 hi hz hs rfl _ _ n (by rw [hb]; omega) (by omega)
theorem mref_New (base n : Nat) (hb : base ≤ 4503599627370496) (hb2 : base % 4096 = 0) (hn : 1 ≤ n) (hn2 : n ≤ 1024) (own : Nat → Nat) (c : Nat) (w : World) :
    Calls Try.prog 35 #[.int .u64 (base : Int), .int .i64 (n : Int)] w fun e w' => ∃ p own', e = .returned (.tuple #[.pointer (some ⟨p, 0, none⟩), .int .i64 0]) ∧ Step (fun _ => False) own w own' w' ∧ MemAt refK own' c w' p base n (fun _ => 0) ∧ w.heap.size ≤ p := by
  have hbz : (base : Int) % 4096 = 0 := by omega
  go_enter Try.func35, Try.ntmps35
  go_wp2_with ((with_reducible show wpList _ _ _ ((⟨some 24, _, _, _, _, _⟩ : Oper) :: _) _ _); refine wpList_make rfl _ _ _ rfl _ _ rfl rfl (bytes_make n hn2 _) ?_)
  go_ret2
  have := MemIn.fresh refK (own := own) (w := w) c base n hb hn hn2
  exact ⟨_, _, rfl, this.1, ⟨_, _, this.2, by simp⟩, by omega⟩
theorem law_Memory (n : Nat) (hn : 1 ≤ n) (hn2 : n ≤ 1024) (own : Nat → Nat) (c1 c2 : Nat) (hc : c1 ≠ c2) (w : World) :
    Calls Try.prog 10 #[.int .u64 0, .int .i64 (n : Int), .slice none 0 0] w fun e w' => ∃ p1 p2 own', e = .returned (.tuple #[.agg #[.pointer (some ⟨p1, 0, none⟩), .pointer (some ⟨p2, 0, none⟩)], .bool true]) ∧ Step (fun _ => False) own w own' w' ∧
      MemAt ramK own' c1 w' p1 0 n (fun _ => 0) ∧ MemAt refK own' c2 w' p2 0 n (fun _ => 0) := by
  have hS0 : Step (fun _ => False) own w (ext own w (c1 + c2 + 1)) (w.alloc (.cells #[.pointer none, .pointer none] 26)) := ⟨(Upd.refl _ _).alloc _, fun b hb => ext_old _ _ _ hb⟩
  have hB0 := Blk.new w 26 #[.pointer none, .pointer none]
  have ho0 : ext own w (c1 + c2 + 1) w.heap.size = c1 + c2 + 1 := ext_new _ _ _ (Nat.le_refl _)
  have H0 := Lib.hid (And.intro hS0 (And.intro hB0 ho0))
  clear hS0 hB0 ho0
  go_enter Try.func10, Try.ntmps10
  go_wp2_with fail
  refine (ram_New 0 n (by omega) (by omega) hn hn2 (ext own w (c1 + c2 + 1)) c1 _).mono ?_
  rintro e w1 ⟨p1, own1, rfl, hS1, hM1, hp1⟩
  have hb1 := hS1.blk H0.out.2.1 H0.out.2.2 (fun h => h)
  have H1 := Lib.hid (And.intro (H0.out.1.trans hS1) (And.intro hM1 hb1))
  clear hS1 hM1 hp1 hb1
  go_wp2_with fail
  refine (mref_New 0 n (by omega) (by omega) hn hn2 own1 c2 _).mono ?_
  rintro e w2 ⟨p2, own2, rfl, hS2, hM2, hp2⟩
  have hb2 := hS2.blk H1.out.2.2.1 H1.out.2.2.2 (fun h => h)
  have hM1 := H1.out.2.1.step hS2 (fun h => h)
  have hS := H1.out.1.trans hS2
  have H2 := Lib.hid (And.intro hS (And.intro hM1 (And.intro hM2 hb2)))
  have hlt := hb2.1.lt
  clear hS2 hM2 hp2 hb2 hM1 hS H1 H0
  generalize hxb : w.heap.size = xb at *
  go_wp2
  generalize hxt : w2.heap.size = xt at *
  go_loopw [13] (fun i wr => i = .int .i64 0 ∧ Hid (Step (fun _ => False) own w own2 wr ∧ MemAt ramK own2 c1 wr p1 0 n (fun _ => 0) ∧ MemAt refK own2 c2 wr p2 0 n (fun _ => 0) ∧ Blk wr xb 26 #[.pointer none, .pointer none] ∧ own2 xb = c1 + c2 + 1 ∧ Blk wr xt 26 #[.pointer (some ⟨p1, 0, none⟩), .pointer (some ⟨p2, 0, none⟩)])) (fun _ _ => 0)
  case atStart =>
    have hst : Step (fun _ => False) own2 w2 own2 (w2.alloc (.cells #[.pointer (some ⟨p1, 0, none⟩), .pointer (some ⟨p2, 0, none⟩)] 26)) := ⟨(Upd.refl _ _).alloc _, fun b hb => rfl⟩
    refine ⟨rfl, H2.out.1.trans hst, H2.out.2.1.step hst (fun h => h), H2.out.2.2.1.step hst (fun h => h), H2.out.2.2.2.1.alloc _, H2.out.2.2.2.2, ?_⟩
    have := Blk.new w2 26 #[.pointer (some ⟨p1, 0, none⟩), .pointer (some ⟨p2, 0, none⟩)]
    rwa [hxt] at this
  case round =>
    obtain ⟨rfl, HX⟩ := hrel
    have hz0 := HX.out.2.2.2.1.frozen 0
    have hz1 := HX.out.2.2.2.1.frozen 1
    have hx0 := HX.out.2.2.2.1.cell 0
    have hx1 := HX.out.2.2.2.1.cell 1
    have hy0 := HX.out.2.2.2.2.2.cell 0
    have hy1 := HX.out.2.2.2.2.2.cell 1
    have hlb := HX.out.2.2.2.1.lt
    go_wp2
    have hB := (HX.out.2.2.2.1.set_ 0 (.pointer (some ⟨p1, 0, none⟩))).set_ 1 (.pointer (some ⟨p2, 0, none⟩))
    refine bodyPost_ret (results_cell_tmp_row rfl _ _ xb 26 #[.pointer (some ⟨p1, 0, none⟩), .pointer (some ⟨p2, 0, none⟩)] _ rfl hB Try.underlying26 rfl (by kernel_rfl)) rfl ?_
    have hst : Step (· = c1 + c2 + 1) own2 wr own2 ((wr.setCell ⟨xb, 0, none⟩ (.pointer (some ⟨p1, 0, none⟩))).setCell ⟨xb, 1, none⟩ (.pointer (some ⟨p2, 0, none⟩))) := ⟨((Upd.refl _ _).setCell (.inl HX.out.2.2.2.2.1) _).setCell (.inl HX.out.2.2.2.2.1) _, fun _ _ => rfl⟩
    have hU : Upd (· = xb) wr ((wr.setCell ⟨xb, 0, none⟩ (.pointer (some ⟨p1, 0, none⟩))).setCell ⟨xb, 1, none⟩ (.pointer (some ⟨p2, 0, none⟩))) := ((Upd.refl (· = xb) wr).setCell (p := ⟨xb, 0, none⟩) (.inl rfl) _).setCell (p := ⟨xb, 1, none⟩) (.inl rfl) _
    exact ⟨p1, p2, rfl, own2, ⟨HX.out.1.upd.trans' hU (fun i hi e => by omega), HX.out.1.old⟩, HX.out.2.1.step hst (by omega), HX.out.2.2.1.step hst (by omega)⟩
end Go.Proofs.Ytjhibbhinbdciaa
