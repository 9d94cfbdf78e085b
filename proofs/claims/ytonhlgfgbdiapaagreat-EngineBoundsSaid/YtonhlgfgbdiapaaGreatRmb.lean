import Derived.Test.YtonhlgfgbdiapaaGreatRma
/- The engine: its reads, made once; Read; Flat. -/
namespace Go.Proofs.YtonhlgfgbdiapaaGreat
set_option linter.unusedVariables false
set_option linter.unusedSimpArgs false
open Go.RowKit Go.Maps
set_option maxRecDepth 100000

theorem wpList_insU {ops : Array Oper} {rest : List Oper} {o : Oper} {act : Act} {Q : Exit → Act → World → Prop} {w w0 : World} {fb lb : Nat} {x : Value} {kv : List (Nat × Value)} (hg : o.guard = none) (m k v : Operand) (t et : TypeId) (hop : o.op = Op.insert t m k v)
    (h : MapB Tryz.prog 23 encU w fb kv) (ht : Tryz.prog.underlying t = some (.map 23 et)) (hU : Upd (· = fb) w0 w) (hm : act.eval m = .map (some fb)) {a : Nat} (ha : a < 18446744073709551616) (hx : act.eval k = encU a) (val : Value) (hv : act.eval v = val)
    (hlt : lb < w0.heap.size ∧ lb ≠ fb) (hlb : w0.cell? ⟨lb, 0, none⟩ = some x)
    (hK : ∀ w', MapB Tryz.prog 23 encU w' fb (kvPut kv a val) → Upd (· = fb) w0 w' → w'.cell? ⟨lb, 0, none⟩ = some x → wpList Tryz.prog ops Q rest (act.put o.dst undef) w') : wpList Tryz.prog ops Q (o :: rest) act w := by
  refine wpList_plain hg fun K' hK' => ?_
  obtain ⟨w', hrun, r1, r2⟩ := h.store keyU encU_inj ht (keyU_mk a ha) val
  have r3 := hU.trans r2
  unfold Oper.wp
  simp [execOp, hop, hm, hx, hv, hrun, Result.andThen]
  exact hK' _ _ (hK w' r1 r3 ((r3.cell (p := ⟨lb, 0, none⟩) hlt.1 hlt.2).trans hlb))
/-- behind the Once's first run -/
def onceE (w : World) (e fb : Nat) (w' : World) : Prop := ∃ wm, Upd (· = fb) ((w.setCell ⟨e, 6, none⟩ (.int .i32 1)).alloc (.map #[] 0)) wm ∧ MapB Tryz.prog 23 encU wm fb (rdsL e) ∧ w' = (((wm.setCell ⟨e, 8, none⟩ (.map (some fb))).drew.setCell ⟨e, 5, none⟩ (.int .u32 1)).setCell ⟨e, 6, none⟩ (.int .i32 0))
set_option maxHeartbeats 1600000 in
/-- what is done once -/
theorem eng_made (e lb : Nat) (hpb : lb ≠ e) (w : World) (hp : w.cell? ⟨lb, 0, none⟩ = some (.pointer (some ⟨e, 0, none⟩))) (hpl : lb < w.heap.size) (hlt : e < w.heap.size)
    (h8 : w.cell? ⟨e, 8, none⟩ = some (.map none)) (f8 : w.frozen? ⟨e, 8, none⟩ = false) :
    Calls Tryz.prog 61 #[.pointer (some ⟨lb, 0, none⟩)] w fun x w' => x = .returned (.tuple #[]) ∧ ∃ wm, Upd (· = w.heap.size) (w.alloc (.map #[] 0)) wm ∧ MapB Tryz.prog 23 encU wm w.heap.size (rdsL e) ∧ w' = wm.setCell ⟨e, 8, none⟩ (.map (some w.heap.size)) := by
  have hmm := @run_makeMap Tryz.prog
  have hM := MapB.made w Tryz.prog 23 encU
  have hsz1 : (w.alloc (.map #[] 0)).heap.size = w.heap.size + 1 := by rw [World.size_alloc]
  have k0 : (w.alloc (.map #[] 0)).cell? ⟨lb, 0, none⟩ = some (.pointer (some ⟨e, 0, none⟩)) := by go_simp
  have k8 : (w.alloc (.map #[] 0)).cell? ⟨e, 8, none⟩ = some (.map none) := by go_simp
  have z8 : (w.alloc (.map #[] 0)).frozen? ⟨e, 8, none⟩ = false := by go_simp
  obtain ⟨w1, hw1⟩ : ∃ w1, w.alloc (.map #[] 0) = w1 := ⟨_, rfl⟩
  rw [hw1] at hM hsz1 k0 k8 z8 ⊢
  obtain ⟨fb, hfb⟩ : ∃ fb, w.heap.size = fb := ⟨_, rfl⟩
  rw [hfb] at hM hpl hlt hsz1 ⊢
  have hlb : lb < w1.heap.size ∧ lb ≠ fb := by omega
  have hU : Upd (· = fb) w1 w1 := Upd.refl _ _
  have HK := Lib.hid (And.intro k8 z8)
  have kL := k0
  clear k8 z8
  go_enter Tryz.func61, Tryz.ntmps61
  go_wp2_with (first | ((with_reducible show wpList _ _ _ ((⟨none, _, _, _, _, _⟩ : Oper) :: _) _ _); refine wpList_insU rfl _ _ _ _ _ rfl hM Tryz.underlying121 hU rfl (a := 0) (by decide) rfl (bmE 38 e) rfl hlb k0 ?_; clear hM hU kL; intro w9 hM hU kL) | ((with_reducible show wpList _ _ _ ((⟨none, _, _, _, _, _⟩ : Oper) :: _) _ _); refine wpList_insU rfl _ _ _ _ _ rfl hM Tryz.underlying121 hU rfl (a := 8) (by decide) rfl (bmE 39 e) rfl hlb k0 ?_; clear hM hU kL; intro w9 hM hU kL) | ((with_reducible show wpList _ _ _ ((⟨none, _, _, _, _, _⟩ : Oper) :: _) _ _); refine wpList_insU rfl _ _ _ _ _ rfl hM Tryz.underlying121 hU rfl (a := 16) (by decide) rfl (bmE 41 e) rfl hlb k0 ?_; clear hM hU kL; intro w9 hM hU kL) | ((with_reducible show wpList _ _ _ ((⟨none, _, _, _, _, _⟩ : Oper) :: _) _ _); refine wpList_insU rfl _ _ _ _ _ rfl hM Tryz.underlying121 hU rfl (a := 24) (by decide) rfl (bmE 62 e) rfl hlb k0 ?_; clear hM hU kL; intro w9 hM hU kL) | ((with_reducible show wpList _ _ _ ((⟨none, _, _, _, _, _⟩ : Oper) :: _) _ _); refine wpList_insU rfl _ _ _ _ _ rfl hM Tryz.underlying121 hU rfl (a := 32) (by decide) rfl (bmE 63 e) rfl hlb k0 ?_; clear hM hU kL; intro w9 hM hU kL) | ((with_reducible show wpList _ _ _ ((⟨none, _, _, _, _, _⟩ : Oper) :: _) _ _); refine wpList_insU rfl _ _ _ _ _ rfl hM Tryz.underlying121 hU rfl (a := 40) (by decide) rfl (bmE 42 e) rfl hlb k0 ?_; clear hM hU kL; intro w9 hM hU kL) | ((with_reducible show wpList _ _ _ ((⟨none, _, _, _, _, _⟩ : Oper) :: _) _ _); refine wpList_insU rfl _ _ _ _ _ rfl hM Tryz.underlying121 hU rfl (a := 48) (by decide) rfl (bmE 43 e) rfl hlb k0 ?_; clear hM hU kL; intro w9 hM hU kL; have g8 := (hU.cell (p := ⟨e, 8, none⟩) (show e < w1.heap.size by omega) (show e ≠ fb by omega)).trans HK.out.1; have y8 : w9.frozen? ⟨e, 8, none⟩ = false := (World.frozen?_of_block (hU.block e (by omega) (show e ≠ fb by omega))).trans HK.out.2; have HMF := Lib.hid (show MapB Tryz.prog 23 encU w9 fb (rdsL e) from hM); clear hM))
  go_end0
  exact ⟨rfl, w9, hU, HMF.out, rfl⟩
set_option maxHeartbeats 1600000 in
theorem eonce_slow (e lb : Nat) (hpb : lb ≠ e) (w : World) (hp : w.cell? ⟨lb, 0, none⟩ = some (.pointer (some ⟨e, 0, none⟩))) (hpl : lb < w.heap.size) (hlt : e < w.heap.size)
    (h5 : w.cell? ⟨e, 5, none⟩ = some (.int .u32 0)) (h6 : w.cell? ⟨e, 6, none⟩ = some (.int .i32 0)) (h8 : w.cell? ⟨e, 8, none⟩ = some (.map none))
    (f5 : w.frozen? ⟨e, 5, none⟩ = false) (f6 : w.frozen? ⟨e, 6, none⟩ = false) (f8 : w.frozen? ⟨e, 8, none⟩ = false) :
    Calls Tryz.prog 97 #[.pointer (some ⟨e, 5, none⟩), .func (.func 61) #[] #[.pointer (some ⟨lb, 0, none⟩)]] w fun x w' => x = .returned (.tuple #[]) ∧ onceE w e w.heap.size w' := by
  have hl := run_call_load (P := Tryz.prog) Tryz.func113 (by kernel_rfl) (by kernel_rfl) (by kernel_rfl) .u32 (by kernel_rfl) (w := w.setCell ⟨e, 6, none⟩ (.int .i32 1)) (a := ⟨e, 5, none⟩) (x := 0) ((World.cell?_setCell_other _ ⟨e, 6, none⟩ ⟨e, 5, none⟩ _ (by simp)).trans h5)
  have hnot : ∀ (x : Bool) (w : World), (Op.unary .not (.bool x)).run Tryz.prog w = .ok (.bool (!x)) w := fun _ _ => rfl
  have hsz0 : (w.setCell ⟨e, 6, none⟩ (.int .i32 1)).heap.size = w.heap.size := by simp [World.setCell]
  have hC := eng_made e lb hpb (w.setCell ⟨e, 6, none⟩ (.int .i32 1)) (by go_simp) (by rw [hsz0]; exact hpl) (by rw [hsz0]; exact hlt) (by go_simp) (by go_simp)
  rw [hsz0] at hC
  have k5 : ((w.setCell ⟨e, 6, none⟩ (.int .i32 1)).alloc (.map #[] 0)).cell? ⟨e, 5, none⟩ = some (.int .u32 0) := by go_simp
  have k6 : ((w.setCell ⟨e, 6, none⟩ (.int .i32 1)).alloc (.map #[] 0)).cell? ⟨e, 6, none⟩ = some (.int .i32 1) := by go_simp
  have z5 : ((w.setCell ⟨e, 6, none⟩ (.int .i32 1)).alloc (.map #[] 0)).frozen? ⟨e, 5, none⟩ = false := by go_simp
  have z6 : ((w.setCell ⟨e, 6, none⟩ (.int .i32 1)).alloc (.map #[] 0)).frozen? ⟨e, 6, none⟩ = false := by go_simp
  have hsz1 : ((w.setCell ⟨e, 6, none⟩ (.int .i32 1)).alloc (.map #[] 0)).heap.size = w.heap.size + 1 := by rw [World.size_alloc, hsz0]
  have HK := Lib.hid (And.intro hC (And.intro (And.intro k5 k6) (And.intro (And.intro z5 z6) hsz1)))
  have hL := fun (w : World) (hc : w.cell? ⟨e, 6, none⟩ = some (.int .i32 0)) (hz : w.frozen? ⟨e, 6, none⟩ = false) => lock_free ⟨e, 6, none⟩ w hc hz
  clear hC k5 k6 z5 z6 hsz1
  go_enter_defers Tryz.func97, Tryz.ntmps97
  go_wp2_with (go_at_call 114; refine (lock_free ⟨e, 6, none⟩ _ (by go_simp) (by go_simp)).mono ?_; rintro x w' ⟨rfl, rfl⟩)
  go_wp2_with (first | (go_at_call 96; go_in) | (go_at_call 61; refine HK.out.1.mono ?_; rintro x w' ⟨rfl, wm, hU, hM, rfl⟩))
  have hle := HK.out.2.2.2
  have k5 := (hU.cell (p := ⟨e, 5, none⟩) (show e < Array.size (World.heap _) by rw [hle]; omega) (show e ≠ w.heap.size by omega)).trans HK.out.2.1.1
  have k6 := (hU.cell (p := ⟨e, 6, none⟩) (show e < Array.size (World.heap _) by rw [hle]; omega) (show e ≠ w.heap.size by omega)).trans HK.out.2.1.2
  have z5 : wm.frozen? ⟨e, 5, none⟩ = false := (World.frozen?_of_block (hU.block e (by rw [hle]; omega) (show e ≠ w.heap.size by omega))).trans HK.out.2.2.1.1
  have z6 : wm.frozen? ⟨e, 6, none⟩ = false := (World.frozen?_of_block (hU.block e (by rw [hle]; omega) (show e ≠ w.heap.size by omega))).trans HK.out.2.2.1.2
  have HF := Lib.hid (And.intro hU hM)
  clear hU hM HK hle hL
  generalize w.heap.size = fb at *
  go_wp2
  refine leaves_cons (f := 116) (args := #[.pointer (some ⟨e, 5, none⟩), .bool true]) (by simp) (by simp [go_sem]) ?_
  refine (store_deferred ⟨e, 5, none⟩ (.int .u32 0) .returning _ (by go_simp) (by go_simp)).mono ?_
  rintro x u' w'' ⟨rfl, rfl, rfl⟩
  refine leaves_cons (f := 115) (args := #[.pointer (some ⟨e, 6, none⟩)]) (by simp [settle]) (by simp [go_sem]) ?_
  refine (unlock_deferred ⟨e, 6, none⟩ _ _ (by go_simp) (by go_simp)).mono ?_
  rintro x u' w'' ⟨rfl, rfl, rfl⟩
  simp [Leaves, settle, results]
  exact ⟨wm, HF.out.1, HF.out.2, rfl⟩
set_option maxHeartbeats 1600000 in
theorem eonce_first (e lb : Nat) (hpb : lb ≠ e) (w : World) (hp : w.cell? ⟨lb, 0, none⟩ = some (.pointer (some ⟨e, 0, none⟩))) (hpl : lb < w.heap.size) (hlt : e < w.heap.size)
    (h5 : w.cell? ⟨e, 5, none⟩ = some (.int .u32 0)) (h6 : w.cell? ⟨e, 6, none⟩ = some (.int .i32 0)) (h8 : w.cell? ⟨e, 8, none⟩ = some (.map none))
    (f5 : w.frozen? ⟨e, 5, none⟩ = false) (f6 : w.frozen? ⟨e, 6, none⟩ = false) (f8 : w.frozen? ⟨e, 8, none⟩ = false) :
    Calls Tryz.prog 60 #[.pointer (some ⟨e, 5, none⟩), .func (.func 61) #[] #[.pointer (some ⟨lb, 0, none⟩)]] w fun x w' => x = .returned (.tuple #[]) ∧ onceE w e w.heap.size w' := by
  have hl := run_call_load (P := Tryz.prog) Tryz.func113 (by kernel_rfl) (by kernel_rfl) (by kernel_rfl) .u32 (by kernel_rfl) h5
  have hnot : ∀ (x : Bool) (w : World), (Op.unary .not (.bool x)).run Tryz.prog w = .ok (.bool (!x)) w := fun _ _ => rfl
  have HS := Lib.hid (eonce_slow e lb hpb w hp hpl hlt h5 h6 h8 f5 f6 f8)
  go_enter Tryz.func60, Tryz.ntmps60
  go_wp2_with (first | (go_at_call 97; refine HS.out.mono ?_; rintro x w' ⟨rfl, hO⟩) | (go_at_call 96; go_in))
  go_end0
  exact ⟨rfl, hO⟩
theorem eonce_done (a : Addr) (d : Int) (hd : ¬ d = 0) (fv : Value) (w : World) (h0 : w.cell? a = some (.int .u32 d)) :
    Calls Tryz.prog 60 #[.pointer (some a), fv] w fun e w' => e = .returned (.tuple #[]) ∧ w' = w := by
  have hl := run_call_load (P := Tryz.prog) Tryz.func113 (by kernel_rfl) (by kernel_rfl) (by kernel_rfl) .u32 (by kernel_rfl) h0
  have hnot : ∀ (x : Bool) (w : World), (Op.unary .not (.bool x)).run Tryz.prog w = .ok (.bool (!x)) w := fun _ _ => rfl
  have hd' : (d != 0) = true := by simp [hd]
  go_enter Tryz.func60, Tryz.ntmps60
  go_wp2
  go_end0
  exact ⟨rfl, rfl⟩
section
variable {own own' : Nat → Nat} {c e mp rb b : Nat} {way rd : Value} {w w' : World} {s s' : Eg}
theorem zeroF (w : World) : (zeroValue 126).run Tryz.prog w = .ok .nilFunc w := by kernel_rfl
set_option maxHeartbeats 1600000 in
theorem eng_register (h : EngAt own c w e mp way s) (off : Nat) (hoff : off < 56) :
    Calls Tryz.prog 34 #[.pointer (some ⟨e, 0, none⟩), .int .u64 (off : Int)] w fun x w' => x = .returned ((kvGet (rdsL e) (off / 8 * 8)).getD .nilFunc) ∧ ∃ own', Step (· = c) own w own' w' ∧ EngAt own' c w' e mp way s := by
  have ha := andNot7 off hoff
  obtain ⟨k, hk⟩ : ∃ k, off / 8 * 8 = k := ⟨_, rfl⟩
  rw [hk] at ha ⊢
  have hk64 : k < 18446744073709551616 := by omega
  obtain ⟨V, hV⟩ : ∃ V, (kvGet (rdsL e) k).getD .nilFunc = V := ⟨_, rfl⟩
  rw [hV]
  have HV := Lib.hid hV
  clear hV
  obtain ⟨rb, dn, rd, hb, ho, hr, hd⟩ := h
  have hlt := hb.lt
  have hne : w.heap.size ≠ e := by omega
  have hst : Step (· = c) own w (ext own w c) (w.alloc (.cells #[.pointer (some ⟨e, 0, none⟩)] 42)) := ⟨(Upd.refl _ _).alloc _, fun b hb => ext_old _ _ _ hb⟩
  have hstF : Step (fun _ => False) own w (ext own w c) (w.alloc (.cells #[.pointer (some ⟨e, 0, none⟩)] 42)) := ⟨(Upd.refl _ _).alloc _, fun b hb => ext_old _ _ _ hb⟩
  obtain ⟨hb1, ho1⟩ := hstF.blk hb ho (fun h => h)
  have hr1 := hr.step hstF (fun h => h)
  have hd1 := hd.step hstF (fun h => h)
  have hsz : (w.alloc (.cells #[.pointer (some ⟨e, 0, none⟩)] 42)).heap.size = w.heap.size + 1 := World.size_alloc _ _
  rcases hd1 with ⟨rfl, rfl⟩ | ⟨rfl, fb, rfl, hfr, hfo, hfm⟩
  · have hO := eonce_first e w.heap.size hne (w.alloc (.cells #[.pointer (some ⟨e, 0, none⟩)] 42)) ((Blk.new w _ _).cell 0) (by rw [hsz]; omega) hb1.lt (hb1.cell 5) (hb1.cell 6) (hb1.cell 8) (hb1.frozen 5) (hb1.frozen 6) (hb1.frozen 8)
    have HO := Lib.hid hO
    have HK := Lib.hid (And.intro (And.intro hst ho1) (And.intro hb1 (And.intro hr1 (And.intro hsz hlt))))
    clear hO hst hstF hb hb1 ho ho1 hr hr1 hd hsz
    go_enter Tryz.func34, Tryz.ntmps34
    go_wp2_with fail
    generalize hw1 : w.alloc (.cells #[.pointer (some ⟨e, 0, none⟩)] 42) = w1 at *
    refine HO.out.mono ?_
    rintro x w2 ⟨rfl, wm, hU, hM, rfl⟩
    have hb1 := HK.out.2.1
    have hsz1 := HK.out.2.2.2.1
    have hfb : w1.heap.size = w.heap.size + 1 := hsz1
    have hmu := hb1.set_ 6 (.int .i32 1)
    have hszA : (w1.setCell ⟨e, 6, none⟩ (.int .i32 1)).heap.size = w1.heap.size := by simp [World.setCell]
    have hal := Blk.upd hmu ((Upd.refl (fun _ => False) _).alloc (.map #[] 0)) (fun h => h)
    have hbm := hal.upd hU (show ¬ (e = w1.heap.size) by omega)
    have hb8 := hbm.set_ 8 (.map (some w1.heap.size))
    have hb8d : Blk (wm.setCell ⟨e, 8, none⟩ (.map (some w1.heap.size))).drew e 123 _ := hb8
    have hb5 := hb8d.set_ 5 (.int .u32 1)
    have hb6 := hb5.set_ 6 (.int .i32 0)
    have hne2 : w1.heap.size ≠ e := by omega
    have hUall : Upd (fun b => b = e ∨ b = w1.heap.size) w1 ((((wm.setCell ⟨e, 8, none⟩ (.map (some w1.heap.size))).drew).setCell ⟨e, 5, none⟩ (.int .u32 1)).setCell ⟨e, 6, none⟩ (.int .i32 0)) := by
      refine Upd.setCell (p := ⟨e, 6, none⟩) (Upd.setCell (p := ⟨e, 5, none⟩) (Upd.drew (Upd.setCell (p := ⟨e, 8, none⟩) ?_ (.inl (.inl rfl)) _)) (.inl (.inl rfl)) _) (.inl (.inl rfl)) _
      exact (((Upd.refl (fun b => b = e ∨ b = w1.heap.size) w1).setCell (p := ⟨e, 6, none⟩) (.inl (.inl rfl)) _).alloc _).trans' hU (fun i _ h => .inr h)
    have hMf : MapB Tryz.prog 23 encU ((((wm.setCell ⟨e, 8, none⟩ (.map (some w1.heap.size))).drew).setCell ⟨e, 5, none⟩ (.int .u32 1)).setCell ⟨e, 6, none⟩ (.int .i32 0)) w1.heap.size (rdsL e) := by
      have hUU : Upd (· = e) wm ((((wm.setCell ⟨e, 8, none⟩ (.map (some w1.heap.size))).drew).setCell ⟨e, 5, none⟩ (.int .u32 1)).setCell ⟨e, 6, none⟩ (.int .i32 0)) :=
        Upd.setCell (p := ⟨e, 6, none⟩) (Upd.setCell (p := ⟨e, 5, none⟩) (Upd.drew (Upd.setCell (p := ⟨e, 8, none⟩) (Upd.refl (· = e) wm) (.inl rfl) _)) (.inl rfl) _) (.inl rfl) _
      exact hM.upd hUU hne2
    generalize ((((wm.setCell ⟨e, 8, none⟩ (.map (some w1.heap.size))).drew).setCell ⟨e, 5, none⟩ (.int .u32 1)).setCell ⟨e, 6, none⟩ (.int .i32 0)) = w2 at *
    have hS2 : Step (· = c) own w (ext (ext own w c) w1 c) w2 := by
      refine HK.out.1.1.trans ⟨hUall.mono (fun i hi h => ?_), fun b hb => ext_old _ _ _ hb⟩
      rcases h with rfl | rfl
      · exact HK.out.1.2
      · exact absurd hi (by omega)
    have hbF : Blk w2 e 123 (egC mp way rb s.st s.cp 1 (.map (some w1.heap.size))) := hb6
    have hoF : ext (ext own w c) w1 c e = c := (ext_old _ _ _ hb1.lt).trans HK.out.1.2
    have hrF : RegAt (ext (ext own w c) w1 c) c w2 rb s.rg := by
      obtain ⟨hro, kv, hm, hkv⟩ := HK.out.2.2.1
      exact ⟨(ext_old _ _ _ hm.lt).trans hro, kv, hm.upd hUall (fun h => by rcases h with h | h; exact (hb1.ne_map hm) h; have := hm.lt; omega), hkv⟩
    have hfr : w1.heap.size ≠ rb := by
      obtain ⟨_, kv, hm, _⟩ := HK.out.2.2.1
      have := hm.lt; omega
    have hE : EngAt (ext (ext own w c) w1 c) c w2 e mp way s := ⟨rb, 1, _, hbF, hoF, hrF, .inr ⟨rfl, _, rfl, hfr, ext_new _ _ _ (Nat.le_refl _), hMf⟩⟩
    have g2 : w2.cell? ⟨w.heap.size, 0, none⟩ = some (.pointer (some ⟨e, 0, none⟩)) := (hUall.cell (p := ⟨w.heap.size, 0, none⟩) (show w.heap.size < w1.heap.size by omega) (show ¬ (w.heap.size = e ∨ w.heap.size = w1.heap.size) by omega)).trans (by rw [← hw1]; exact (Blk.new w _ _).cell 0)
    have g8 : w2.cell? ⟨e, 8, none⟩ = some (.map (some w1.heap.size)) := hbF.cell 8
    have HF := Lib.hid (And.intro hS2 hE)
    have HM := Lib.hid hMf
    clear hb1 hsz1 hfb hmu hszA hal hbm hb8 hb8d hb5 hb6 hUall hMf hS2 hbF hoF hrF hfr hE HO HK hU hM hw1 hk
    generalize w.heap.size = lb at *
    generalize w1.heap.size = fb at *
    go_wp2_with ((with_reducible show wpList _ _ _ ((⟨some 16, _, _, _, _, _⟩ : Oper) :: _) _ _); refine wpList_lookB rfl _ _ _ false rfl HM.out keyU encU_inj Tryz.underlying121 (zeroF _) rfl (a := k) rfl (keyU_mk k hk64) V (by rw [if_neg (by decide)]; exact HV.out) ?_)
    go_ret
    exact ⟨rfl, _, HF.out⟩
  · have HO := Lib.hid (eonce_done ⟨e, 5, none⟩ 1 (by decide) (.func (.func 61) #[] #[.pointer (some ⟨w.heap.size, 0, none⟩)]) (w.alloc (.cells #[.pointer (some ⟨e, 0, none⟩)] 42)) (hb1.cell 5))
    have HF := Lib.hid (And.intro hst (show EngAt (ext own w c) c (w.alloc (.cells #[.pointer (some ⟨e, 0, none⟩)] 42)) e mp way s from ⟨rb, 1, _, hb1, ho1, hr1, .inr ⟨rfl, fb, rfl, hfr, hfo, hfm⟩⟩))
    have HM := Lib.hid hfm
    have g2 := (Blk.new w 42 #[.pointer (some ⟨e, 0, none⟩)]).cell 0
    have g8 : (w.alloc (.cells #[.pointer (some ⟨e, 0, none⟩)] 42)).cell? ⟨e, 8, none⟩ = some (.map (some fb)) := hb1.cell 8
    simp only [List.getElem?_toArray, List.getElem?_cons_zero] at g2
    clear hst hstF hb hb1 ho ho1 hr hr1 hd hsz hfm hfo hfr hk
    go_enter Tryz.func34, Tryz.ntmps34
    go_wp2_with fail
    generalize hw1 : w.alloc (.cells #[.pointer (some ⟨e, 0, none⟩)] 42) = w1 at *
    refine HO.out.mono ?_
    rintro x w2 ⟨rfl, rfl⟩
    clear HO hw1
    go_wp2_with ((with_reducible show wpList _ _ _ ((⟨some 16, _, _, _, _, _⟩ : Oper) :: _) _ _); refine wpList_lookB rfl _ _ _ false rfl HM.out keyU encU_inj Tryz.underlying121 (zeroF _) rfl (a := k) rfl (keyU_mk k hk64) V (by rw [if_neg (by decide)]; exact HV.out) ?_)
    go_ret
    exact ⟨rfl, _, HF.out⟩
end
end Go.Proofs.YtonhlgfgbdiapaaGreat

/- The engine: Flat; a flat way. -/
namespace Go.Proofs.YtonhlgfgbdiapaaGreat
set_option linter.unusedVariables false
set_option linter.unusedSimpArgs false
open Go.RowKit Go.Maps
set_option maxRecDepth 100000
section
def wayF (mp : Nat) : Value := .iface 145 (.agg #[.pointer (some ⟨mp, 0, none⟩)])
theorem eng_Flat (own : Nat → Nat) (c mp : Nat) (w : World) : Calls Tryz.prog 21 #[.pointer (some ⟨mp, 0, none⟩)] w fun x w' => ∃ e own', x = .returned (.pointer (some ⟨e, 0, none⟩)) ∧ Step (fun _ => False) own w own' w' ∧ EngAt own' c w' e mp (wayF mp) eg0 := by
  have hmm := @run_makeMap Tryz.prog
  have hS1 : Step (fun _ => False) own w (ext own w c) (w.alloc (.map #[] 0)) := ⟨(Upd.refl _ _).alloc _, fun b hb => ext_old _ _ _ hb⟩
  have hS2 : Step (fun _ => False) (ext own w c) (w.alloc (.map #[] 0)) (ext (ext own w c) (w.alloc (.map #[] 0)) c) ((w.alloc (.map #[] 0)).alloc (.cells (egC mp (wayF mp) w.heap.size 0 0 0 (.map none)) 123)) := ⟨(Upd.refl _ _).alloc _, fun b hb => ext_old _ _ _ hb⟩
  have hM := MapB.made w Tryz.prog 23 encU
  have hR : RegAt (ext own w c) c (w.alloc (.map #[] 0)) w.heap.size eg0.rg := ⟨ext_new _ _ _ (Nat.le_refl _), [], hM, fun k => rfl⟩
  have hE : EngAt (ext (ext own w c) (w.alloc (.map #[] 0)) c) c ((w.alloc (.map #[] 0)).alloc (.cells (egC mp (wayF mp) w.heap.size 0 0 0 (.map none)) 123)) (w.alloc (.map #[] 0)).heap.size mp (wayF mp) eg0 :=
    ⟨w.heap.size, 0, .map none, Blk.new _ _ _, ext_new _ _ _ (Nat.le_refl _), hR.step hS2 (fun h => h), .inl ⟨rfl, rfl⟩⟩
  have hSS := hS1.trans hS2
  rw [World.size_alloc] at hE
  have HF := Lib.hid (And.intro hSS hE)
  clear hS1 hS2 hM hR hE hSS
  go_enter Tryz.func21, Tryz.ntmps21
  go_wp2
  go_ret
  exact ⟨_, _, rfl, HF.out⟩
/-- a flat way: access, message -/
theorem flat_access {own : Nat → Nat} {c p base n : Nat} {m : Nat → Int} {w : World} (h : MemAt ramK own c w p base n m) (d : Nat) (a : Nat) (ha : a < 18446744073709551616) (wr : Bool) :
    Calls Tryz.prog 170 #[.agg #[.pointer (some ⟨p, 0, none⟩)], .int .u64 (a : Int), .bool wr] w fun x w' => x = .returned (.tuple #[.int .u64 (a : Int), .bool (hasR base n a 8)]) ∧ Step (fun _ => False) own w (ext own w d) w' := by
  have hst : Step (fun _ => False) own w (ext own w d) (w.alloc (.cells #[.pointer (some ⟨p, 0, none⟩)] 145)) := ⟨(Upd.refl _ _).alloc _, fun b hb => ext_old _ _ _ hb⟩
  have hh := ram_hasC (h.step hst (fun h => h)) (a : Int) 8 (by omega) (by omega) (by decide) (by decide)
  have HH := Lib.hid hh
  have HS := Lib.hid hst
  clear hh hst h
  go_enter Tryz.func170, Tryz.ntmps170
  go_wp2_with fail
  ((with_reducible refine HH.out.mono ?_); rintro x wz ⟨rfl, q, rfl⟩)
  have HF := Lib.hid (HS.out.drewN q)
  clear HH HS
  go_wp2
  go_ret2
  exact ⟨rfl, HF.out⟩
theorem flat_message (own : Nat → Nat) (c p d : Nat) (a k : Nat) (ha : a < 18446744073709551616) (hk : k < 18446744073709551616) (w : World) :
    Calls Tryz.prog 171 #[.agg #[.pointer (some ⟨p, 0, none⟩)], .int .u64 (a : Int), .int .u64 (k : Int)] w fun x w' => x = .returned (.tuple #[.agg #[.int .i64 (msgF a k).1, .int .i64 (msgF a k).2.1], .bool (msgF a k).2.2]) ∧ ∃ own', Step (fun _ => False) own w own' w' := by
  have hS1 : Step (fun _ => False) own w (ext own w d) (w.alloc (.cells #[.pointer (some ⟨p, 0, none⟩)] 145)) := ⟨(Upd.refl _ _).alloc _, fun b hb => ext_old _ _ _ hb⟩
  have hS2 : Step (fun _ => False) (ext own w d) (w.alloc (.cells #[.pointer (some ⟨p, 0, none⟩)] 145)) (ext (ext own w d) (w.alloc (.cells #[.pointer (some ⟨p, 0, none⟩)] 145)) d) ((w.alloc (.cells #[.pointer (some ⟨p, 0, none⟩)] 145)).alloc (.cells #[.int .i64 0, .int .i64 0] 47)) := ⟨(Upd.refl _ _).alloc _, fun b hb => ext_old _ _ _ hb⟩
  have hB := Blk.new (w.alloc (.cells #[.pointer (some ⟨p, 0, none⟩)] 145)) 47 #[.int .i64 0, .int .i64 0]
  rw [World.size_alloc] at hB
  have hSS := hS1.trans hS2
  obtain ⟨own2, ho2⟩ : ∃ own2, ext (ext own w d) (w.alloc (.cells #[.pointer (some ⟨p, 0, none⟩)] 145)) d = own2 := ⟨_, rfl⟩
  rw [ho2] at hSS
  have x0 := hB.cell 0
  have x1 := hB.cell 1
  simp only [List.getElem?_toArray, List.getElem?_cons_zero, List.getElem?_cons_succ] at x0 x1
  have f0 := hB.frozen 0
  have f1 := hB.frozen 1
  have hlr := hB.lt
  have hxl : w.heap.size ≤ w.heap.size + 1 := by omega
  have HB := Lib.hid (And.intro hSS hB)
  have hUx : ∀ (x y : Value), Step (fun _ => False) own w (ext (ext own w d) (w.alloc (.cells #[.pointer (some ⟨p, 0, none⟩)] 145)) d) ((w.alloc (.cells #[.pointer (some ⟨p, 0, none⟩)] 145)).alloc (.cells #[x, y] 47)) ∧ Blk ((w.alloc (.cells #[.pointer (some ⟨p, 0, none⟩)] 145)).alloc (.cells #[x, y] 47)) (w.heap.size + 1) 47 #[x, y] := fun x y =>
    ⟨hS1.trans ⟨(Upd.refl _ _).alloc _, fun b hb => ext_old _ _ _ hb⟩, by have := Blk.new (w.alloc (.cells #[.pointer (some ⟨p, 0, none⟩)] 145)) 47 #[x, y]; rwa [World.size_alloc] at this⟩
  have HX := Lib.hid hUx
  clear hS1 hS2 hB hSS ho2 hUx
  by_cases h1 : a = 4276092928
  · have k1 : ((a : Int) != 4276092928) = false := by rw [h1]; rfl
    by_cases h2 : k ≤ 15
    · have k2 : decide ((15 : Int) < (k : Int)) = false := by simp; omega
      rw [show msgF a k = (1, 16 + (k : Int), true) from if_pos ⟨h1, h2⟩]
      have hk63 : (k : Int) ≤ 15 := by omega
      clear h1 h2
      go_enter Tryz.func171, Tryz.ntmps171
      go_wp2
      refine bodyPost_ret (results_cell_tmp_row rfl _ _ (w.heap.size + 1) 47 #[.int .i64 1, .int .i64 (16 + (k : Int))] _ rfl (HX.out _ _).2 Tryz.underlying47 rfl (by kernel_rfl)) rfl ?_
      exact ⟨rfl, _, (HX.out _ _).1⟩
    · have k2 : decide ((15 : Int) < (k : Int)) = true := by simp; omega
      rw [show msgF a k = (0, 0, false) from if_neg (by omega)]
      clear h1 h2
      go_enter Tryz.func171, Tryz.ntmps171
      go_wp2
      refine bodyPost_ret (results_cell_tmp_row rfl _ _ (w.heap.size + 1) 47 #[.int .i64 0, .int .i64 0] _ rfl HB.out.2 Tryz.underlying47 rfl (by kernel_rfl)) rfl ?_
      exact ⟨rfl, own2, HB.out.1⟩
  · have k1 : ((a : Int) != 4276092928) = true := by simp; omega
    rw [show msgF a k = (0, 0, false) from if_neg (by omega)]
    clear h1
    go_enter Tryz.func171, Tryz.ntmps171
    go_wp2
    refine bodyPost_ret (results_cell_tmp_row rfl _ _ (w.heap.size + 1) 47 #[.int .i64 0, .int .i64 0] _ rfl HB.out.2 Tryz.underlying47 rfl (by kernel_rfl)) rfl ?_
    exact ⟨rfl, own2, HB.out.1⟩
end
end Go.Proofs.YtonhlgfgbdiapaaGreat
