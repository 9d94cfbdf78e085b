import Derived.Test.YtpodeclkgcgpgaaTlb3
import Derived.Test.YtpodeclkgcgpgaaOnce2
/- Shootdowns (stage.Shoot): who is due what. -/
namespace Go.Proofs.Ytpodeclkgcgpgaa
set_option linter.unusedVariables false
set_option linter.unusedSimpArgs false
open Go.RowKit
set_option maxRecDepth 100000

theorem st_rightS (v : Int) (w : World) : Calls Try.prog 100 #[.int .i64 v] w fun e w' => e = .returned (.bool (decide (1 ≤ v ∧ v ≤ 15))) ∧ w = w' := by
  have hcs : (1 ≤ v ∧ decide (v ≤ 15) = true) ∨ (1 ≤ v ∧ decide (v ≤ 15) = false) ∨ v < 1 := by
    rcases Int.lt_or_le v 1 with h | h
    · exact Or.inr (Or.inr h)
    · rcases Int.lt_or_le 15 v with h2 | h2
      · exact Or.inr (Or.inl ⟨h, by simp; omega⟩)
      · exact Or.inl ⟨h, by simp; omega⟩
  have hr : (1 ≤ v ∧ decide (v ≤ 15) = true → decide (1 ≤ v ∧ v ≤ 15) = true) ∧ (¬ (1 ≤ v ∧ decide (v ≤ 15) = true) → decide (1 ≤ v ∧ v ≤ 15) = false) := by
    constructor
    · rintro ⟨a, b⟩; simp at b ⊢; omega
    · intro h; simp at h ⊢; exact h
  have HR := Lib.hid hr
  clear hr
  rcases hcs with ⟨h1, h2⟩ | ⟨h1, h2⟩ | h1
  · rw [HR.out.1 ⟨h1, h2⟩]
    go_enter Try.func100, Try.ntmps100
    go_wp2
    go_ret
    exact ⟨rfl, rfl⟩
  · rw [HR.out.2 (fun h => by rw [h2] at h; cases h.2)]
    go_enter Try.func100, Try.ntmps100
    go_wp2
    go_ret
    exact ⟨rfl, rfl⟩
  · rw [HR.out.2 (fun h => by omega)]
    go_enter Try.func100, Try.ntmps100
    go_wp2
    go_ret
    exact ⟨rfl, rfl⟩
theorem au32_Load (a : Addr) (x : Int) (w : World) (hc : w.cell? a = some (.int .u32 x)) :
    Calls Try.prog 124 #[.pointer (some a)] w fun e w' => e = .returned (.int .u32 x) ∧ w = w' := by
  have hl := run_call_load (P := Try.prog) Try.func158 (by kernel_rfl) (by kernel_rfl) (by kernel_rfl) .u32 (by kernel_rfl) hc
  go_enter Try.func124, Try.ntmps124
  go_wp2
  go_ret
  exact ⟨rfl, rfl⟩
theorem au32_Store (a : Addr) (x : Value) (y : Int) (w : World) (hc : w.cell? a = some x) (hz : w.frozen? a = false) :
    Calls Try.prog 119 #[.pointer (some a), .int .u32 y] w fun e w' => e = .returned (.tuple #[]) ∧ w' = w.setCell a (.int .u32 y) := by
  have hst := run_call_store (P := Try.prog) Try.func156 (by kernel_rfl) (by kernel_rfl) (by kernel_rfl) (by kernel_rfl) (k := .u32) (y := y) hc hz
  go_enter Try.func119, Try.ntmps119
  go_wp2
  go_end0
  exact ⟨rfl, rfl⟩
theorem au32_Or (a : Addr) (x y : Int) (w : World) (hc : w.cell? a = some (.int .u32 x)) (hz : w.frozen? a = false) :
    Calls Try.prog 117 #[.pointer (some a), .int .u32 y] w fun e w' => e = .returned (.int .u32 x) ∧ w' = w.setCell a (.int .u32 (bits .or .u32 x y)) := by
  have hst := run_call_upd (P := Try.prog) Try.func153 (by kernel_rfl) (by kernel_rfl) (by kernel_rfl) .u32 (Op.intBits .or) (by kernel_rfl) (x := x) (y := y) (s := bits .or .u32 x y) hc hz rfl
  go_enter Try.func117, Try.ntmps117
  go_wp2
  go_ret
  exact ⟨rfl, rfl⟩
def u32C (bs : List Nat) : Array Value := (bs.map (fun b : Nat => Value.int .u32 (b : Int))).toArray
theorem u32C_size (bs : List Nat) : (u32C bs).size = bs.length := by simp [u32C]
theorem u32C_at (bs : List Nat) (k : Nat) : (u32C bs)[k]? = bs[k]?.map (fun b : Nat => Value.int .u32 (b : Int)) := by simp [u32C]
theorem u32C_set (bs : List Nat) (k b : Nat) : (u32C bs).setIfInBounds k (.int .u32 (b : Int)) = u32C (bs.set k b) := by simp [u32C, List.map_set]
/-- who is due what, at block sp: a number of 16 bits for each hart -/
def ShAt (own : Nat → Nat) (c : Nat) (w : World) (sp : Nat) (bs : List Nat) : Prop :=
  (∃ q, Blk w sp 208 #[.slice (some ⟨q, 0, none⟩) bs.length bs.length] ∧ own sp = c ∧ Blk w q 211 (u32C bs) ∧ own q = c) ∧ 1 ≤ bs.length ∧ bs.length ≤ 8 ∧ ∀ b ∈ bs, b < 65536
/-- what a number says is due -/
def dueTo (b j : Nat) : List Int := ((List.range j).filter (fun i => i != 0 && b.testBit i)).map (fun i : Nat => (i : Int))
def dueL (b : Nat) : List Int := dueTo b 16
theorem dueTo_one (b : Nat) : dueTo b 1 = [] := by simp [dueTo, List.range_succ]
theorem dueTo_len (b j : Nat) : (dueTo b j).length ≤ j := by
  unfold dueTo; rw [List.length_map]
  exact Nat.le_trans (List.length_filter_le _ _) (by simp)
theorem dueTo_succ (b j : Nat) (hj : 1 ≤ j) : dueTo b (j + 1) = dueTo b j ++ (if b.testBit j then [(j : Int)] else []) := by
  unfold dueTo
  rw [List.range_succ, List.filter_append, List.map_append]
  congr 1
  have hj0 : (j != 0) = true := by simp; omega
  cases hx : b.testBit j <;> simp [hx, hj0]
section
variable {own own' : Nat → Nat} {c sp : Nat} {w w' : World} {bs : List Nat}
theorem ShAt.step {C : Nat → Prop} (h : ShAt own c w sp bs) (hS : Step C own w own' w') (hc : ¬ C c) : ShAt own' c w' sp bs := by
  obtain ⟨⟨q, h1, o1, h2, o2⟩, hr⟩ := h
  obtain ⟨a1, a2⟩ := hS.blk h1 o1 hc
  obtain ⟨b1, b2⟩ := hS.blk h2 o2 hc
  exact ⟨⟨q, a1, a2, b1, b2⟩, hr⟩
theorem info_au32 : (Try.prog.info? 211).map (fun i => (i.zero, i.size, i.bytes)) = some (some (.agg #[.int .u32 0]), 1, 4) := by kernel_rfl
theorem au32_make (n : Nat) (hn : n ≤ 1024) (w : World) : (Instr.makeSlice 206 (.int .i64 (n : Int)) (.int .i64 (n : Int))).run Try.prog w = .ok (.slice (some ⟨w.heap.size, 0, none⟩) n n) (w.alloc (.cells (u32C (List.replicate n 0)) 211)) := by
  obtain ⟨ie, hi, hz, hs, hb⟩ := info_parts info_au32
  have hb' : (ie.bytes : Int) * (n : Int) ≤ 281474976710656 := by rw [hb]; omega
  have := run_make w 206 _ ie _ Try.underlying206 hi hz .i64 .i64 n n (by omega) (Int.le_refl _) hb' (by omega)
  simp only [Int.toNat_natCast, hs, Nat.mul_one, Value.cells] at this
  rw [show madeCells #[.int .u32 0] n = u32C (List.replicate n 0) from by rw [make_cells]; simp [u32C]] at this
  exact this
theorem sh_New (own : Nat → Nat) (c : Nat) (w : World) (n : Nat) (hn : 1 ≤ n ∧ n ≤ 8) :
    Calls Try.prog 58 #[.int .i64 (n : Int)] w fun e w' => e = .returned (.tuple #[.pointer (some ⟨w.heap.size + 1, 0, none⟩), .int .i64 0]) ∧ Step (fun _ => False) own w (ext own w c) w' ∧ ShAt (ext own w c) c w' (w.heap.size + 1) (List.replicate n 0) := by
  have hd : decide ((n : Int) < 1) = false := by simp; omega
  have hb := Blk.new w 211 (u32C (List.replicate n 0))
  have hb2 := Blk.new (w.alloc (.cells (u32C (List.replicate n 0)) 211)) 208 #[.slice (some ⟨w.heap.size, 0, none⟩) n n]
  rw [World.size_alloc] at hb2
  have H := Lib.hid (show Step (fun _ => False) own w (ext own w c) ((w.alloc (.cells (u32C (List.replicate n 0)) 211)).alloc (.cells #[.slice (some ⟨w.heap.size, 0, none⟩) n n] 208)) ∧ ShAt (ext own w c) c ((w.alloc (.cells (u32C (List.replicate n 0)) 211)).alloc (.cells #[.slice (some ⟨w.heap.size, 0, none⟩) n n] 208)) (w.heap.size + 1) (List.replicate n 0) from
    ⟨⟨((Upd.refl _ _).alloc _).alloc _, fun b hb => ext_old _ _ _ hb⟩, ⟨w.heap.size, by rw [List.length_replicate]; exact hb2, ext_new _ _ _ (by omega), hb.alloc _, ext_new _ _ _ (Nat.le_refl _)⟩, by simp; omega, by simp; omega, fun b hb => by rw [List.mem_replicate] at hb; omega⟩)
  clear hb hb2
  go_enter Try.func58, Try.ntmps58
  go_wp2_with ((with_reducible show wpList _ _ _ ((⟨some 11, _, _, _, _, _⟩ : Oper) :: _) _ _); refine wpList_make rfl _ _ _ rfl _ _ rfl rfl (au32_make n (by omega) _) ?_)
  go_ret2
  exact ⟨rfl, H.out.1, H.out.2⟩
theorem sh_New_bad (w : World) (n : Int) (h : n < 1 ∨ 8 < n) :
    Calls Try.prog 58 #[.int .i64 n] w fun e w' => e = .returned (.tuple #[.pointer none, .int .i64 1]) ∧ w = w' := by
  by_cases h1 : n < 1
  · have hd : decide (n < 1) = true := by simpa using h1
    clear h
    go_enter Try.func58, Try.ntmps58
    go_wp2
    go_ret2
    exact ⟨rfl, rfl⟩
  · have h2 : 8 < n := by omega
    have hd : decide (n < 1) = false := by simpa using h1
    clear h
    go_enter Try.func58, Try.ntmps58
    go_wp2
    go_ret2
    exact ⟨rfl, rfl⟩
theorem info_intS : (Try.prog.info? 3).map (fun i => (i.zero, i.size, i.bytes)) = some (some (.int .i64 0), 1, 8) := by kernel_rfl
theorem bit32 (b j : Nat) (hb : b < 65536) : (bits .and .u32 ((b : Int) / 2 ^ j) 1 == 1) = b.testBit j := by
  have e : (b : Int) / 2 ^ j = ((b / 2 ^ j : Nat) : Int) := by simp
  have hle : b / 2 ^ j ≤ b := Nat.div_le_self _ _
  rw [e, show (1 : Int) = ((1 : Nat) : Int) from rfl, u32_and_nat _ _ (by omega) (by decide), Nat.and_one_is_mod, Nat.testBit_eq_decide_div_mod_eq]
  by_cases h : b / 2 ^ j % 2 = 1
  · rw [h]; simp
  · have h0 : b / 2 ^ j % 2 = 0 := by omega
    rw [h0]; simp
theorem dueL_none {b : Nat} (h : ∀ i, 1 ≤ i → i ≤ 15 → b.testBit i = false) : dueL b = [] := by
  unfold dueL dueTo
  rw [List.map_eq_nil_iff, List.filter_eq_nil_iff]
  intro i hi
  rw [List.mem_range] at hi
  by_cases h0 : i = 0
  · subst h0; simp
  · rw [h i (by omega) (by omega)]; simp
set_option maxHeartbeats 2000000 in
theorem sh_Due (h : ShAt own c w sp bs) (k : Nat) (b : Nat) (hk : bs[k]? = some b) (d' : Nat) :
    Calls Try.prog 71 #[.pointer (some ⟨sp, 0, none⟩), .int .i64 (k : Int)] w fun e w' => ∃ v', e = .returned v' ∧ Step (fun _ => False) own w (ext own w d') w' ∧ Rw 3 1 (ext own w d') d' w' v' (dueL b).length ((dueL b).map (.int .i64)) := by
  obtain ⟨⟨q, h1, o1, h2, o2⟩, hl1, hl8, hbd⟩ := h
  have hlt := (List.getElem?_eq_some_iff.1 hk).1
  have hb16 := hbd b (List.mem_of_getElem? hk)
  have c0 : w.cell? ⟨sp, 0, none⟩ = some (.slice (some ⟨q, 0, none⟩) bs.length bs.length) := h1.cell 0
  have cq : w.cell? ⟨q, k, none⟩ = some (.int .u32 (b : Int)) := by rw [h2.cell, u32C_at, hk]; rfl
  have hld := Lib.hid (au32_Load ⟨q, k, none⟩ (b : Int) w cq)
  have hlt' : decide (bs.length ≤ k) = false := by simp; omega
  clear h1 h2 o1 o2 hk hbd
  go_enter Try.func71, Try.ntmps71
  go_wp2_with fail
  refine hld.out.mono ?_; rintro e w1 ⟨rfl, rfl⟩
  clear hld
  go_wp2
  go_loopw [5, 7] (fun s i wr => ∃ (k : Nat), 1 ≤ k ∧ k ≤ 16 ∧ i = .int .i64 (k : Int) ∧ Hid (∃ own', Step (· = 0) (up1 own w) w own' wr ∧ Rw 3 1 own' 0 wr s (dueTo b k).length ((dueTo b k).map (.int .i64)))) (fun _ i _ => 16 - (intOf i).toNat)
  case atStart => exact ⟨1, by omega, by omega, rfl, _, Step.refl _ _ _, by rw [dueTo_one]; exact Rw.nil _ _ _ _ _⟩
  case round =>
    obtain ⟨j, hj1, hj16, rfl, HL⟩ := hrel
    by_cases hlt2 : j < 16
    · have hlj : (j : Int) ≤ 15 := by omega
      have hbt : (bits .and .u32 ((b : Int) / 2 ^ j) 1 == 1) = b.testBit j := bit32 b j hb16
      obtain ⟨own2, hS2, hR2⟩ := HL.out
      have hrg := dueTo_succ b j hj1
      have hll := dueTo_len b j
      have HLL := Lib.hid hll
      have H2 := Lib.hid (And.intro hS2 hR2)
      clear hS2 hR2 HL hll
      obtain ⟨bt, hbe⟩ : ∃ bt, b.testBit j = bt := ⟨_, rfl⟩
      rw [hbe] at hbt hrg
      have HRG := Lib.hid hrg
      obtain ⟨ie, hie, hiz, his, hib⟩ := info_parts info_intS
      have HI := Lib.hid (And.intro hie (And.intro hiz (And.intro his hib)))
      clear hbe hrg hie hiz his hib
      cases bt with
      | true =>
        have hrg := HRG.out
        rw [if_pos rfl] at hrg
        have HR2 := Lib.hid hrg
        clear hrg HRG
        go_wp2_with ((with_reducible show wpList _ _ _ ((⟨some 39, _, _, _, _, _⟩ : Oper) :: _) _ _); refine wpList_append_rw rfl (.tmp 36) (.tmp 38) _ rfl 3 ie _ 1 8 Try.underlying45 HI.out.1 HI.out.2.1 HI.out.2.2.1 HI.out.2.2.2 rfl (by omega) (own := own2) (d := 0) u5 _ _ rfl (H2.out.2.step (step_allocS own2 wr (.cells #[.int .i64 (j : Int)] 3)) (fun h => h)) (wr.heap.size + 1) (some ⟨wr.heap.size, 0, none⟩) 1 1 [.int .i64 (j : Int)] rfl ⟨rfl, fun _ => ⟨_, rfl, Nat.lt_succ_self _, cell_one_new _ _ _⟩⟩ (by simp [Value.oneCell']) (by unfold maxLen; have := HLL.out; omega) (by have := HLL.out; omega) ?_)
        intro v3 w3 hst3 hrow3
        have hst4 := (H2.out.1.trans ((step_allocS own2 wr (.cells #[.int .i64 (j : Int)] 3)).mono (C' := (· = 0)) (fun _ h => h.elim))).trans hst3
        have hrow4 : Rw 3 1 (ext own2 (wr.alloc (.cells #[.int .i64 (j : Int)] 3)) 0) 0 w3 v3 (dueTo b (j + 1)).length ((dueTo b (j + 1)).map (.int .i64)) := by rw [HR2.out, List.length_append, List.map_append]; exact hrow3
        have H4 := Lib.hid (And.intro hst4 hrow4)
        clear hst3 hrow3 hrow4 hst4 H2
        go_wp2
        exact ⟨⟨j + 1, by omega, by omega, by go_num, _, H4.out⟩, by simp [intOf]; omega⟩
      | false =>
        have hrg := HRG.out
        rw [if_neg (by decide), List.append_nil] at hrg
        have HR2 := Lib.hid hrg
        clear hrg HRG
        go_wp2
        exact ⟨⟨j + 1, by omega, by omega, by go_num, own2, by rw [HR2.out]; exact H2.out⟩, by simp [intOf]; omega⟩
    · obtain rfl : j = 16 := by omega
      go_wp2
      go_ret
      obtain ⟨own2, hS2, hO2⟩ := HL.out
      exact ⟨_, rfl, ⟨up1_upd hS2, fun b hb => ext_old _ _ _ hb⟩, up1_row hS2 hO2 d'⟩
/-- a hart's number is written anew -/
theorem ShAt.set {k b : Nat} (h : ShAt own c w sp bs) (hU : Upd (fun _ => False) w w') (hb : b < 65536) (q : Nat) (hq : w.cell? ⟨sp, 0, none⟩ = some (.slice (some ⟨q, 0, none⟩) bs.length bs.length)) :
    Step (· = c) own w own (w'.setCell ⟨q, k, none⟩ (.int .u32 (b : Int))) ∧ ShAt own c (w'.setCell ⟨q, k, none⟩ (.int .u32 (b : Int))) sp (bs.set k b) := by
  obtain ⟨⟨q', h1, o1, h2, o2⟩, hl1, hl8, hbd⟩ := h
  have e := (h1.cell 0).symm.trans hq
  simp only [List.getElem?_toArray, List.getElem?_cons_zero] at e
  cases e
  have hS : Step (fun _ => False) own w own w' := ⟨hU, fun _ _ => rfl⟩
  obtain ⟨a1, a2⟩ := hS.blk h1 o1 (fun h => h)
  obtain ⟨b1, b2⟩ := hS.blk h2 o2 (fun h => h)
  have hne : sp ≠ q := a1.ne_ b1 (by decide)
  refine ⟨⟨(hU.mono (fun _ _ h => h.elim)).setCell (.inl o2) _, fun _ _ => rfl⟩, ⟨q, by rw [List.length_set]; exact a1.far hne _, a2, by rw [← u32C_set]; exact b1.set_ k _, b2⟩, by rw [List.length_set]; exact hl1, by rw [List.length_set]; exact hl8, fun x hx => ?_⟩
  rcases List.mem_or_eq_of_mem_set hx with h | h
  · exact hbd x h
  · rw [h]; exact hb
theorem ShAt.set_cell {k b : Nat} (h : ShAt own c w sp bs) (hU : Upd (fun _ => False) w w') (q : Nat) (hq : w.cell? ⟨sp, 0, none⟩ = some (.slice (some ⟨q, 0, none⟩) bs.length bs.length)) :
    (w'.setCell ⟨q, k, none⟩ (.int .u32 (b : Int))).cell? ⟨sp, 0, none⟩ = some (.slice (some ⟨q, 0, none⟩) bs.length bs.length) := by
  obtain ⟨⟨q', h1, o1, h2, o2⟩, hl1, hl8, hbd⟩ := h
  have e := (h1.cell 0).symm.trans hq
  simp only [List.getElem?_toArray, List.getElem?_cons_zero] at e
  cases e
  have hS : Step (fun _ => False) own w own w' := ⟨hU, fun _ _ => rfl⟩
  obtain ⟨a1, a2⟩ := hS.blk h1 o1 (fun h => h)
  obtain ⟨b1, b2⟩ := hS.blk h2 o2 (fun h => h)
  have hne : sp ≠ q := a1.ne_ b1 (by decide)
  exact (a1.far (p := ⟨q, k, none⟩) hne _).cell 0
theorem ShAt.cells (h : ShAt own c w sp bs) : ∃ q, w.cell? ⟨sp, 0, none⟩ = some (.slice (some ⟨q, 0, none⟩) bs.length bs.length) ∧ sp < w.heap.size ∧ q < w.heap.size ∧ own q = c ∧ (∀ k b : Nat, bs[k]? = some b → w.cell? ⟨q, k, none⟩ = some (.int .u32 (b : Int))) ∧ ∀ k, w.frozen? ⟨q, k, none⟩ = false := by
  obtain ⟨⟨q, h1, o1, h2, o2⟩, hl1, hl8, hbd⟩ := h
  exact ⟨q, h1.cell 0, h1.lt, h2.lt, o2, fun k b hk => by rw [h2.cell, u32C_at, hk]; rfl, fun k => h2.frozen k⟩
set_option maxHeartbeats 2000000 in
theorem sh_Idle (h : ShAt own c w sp bs) :
    Calls Try.prog 72 #[.pointer (some ⟨sp, 0, none⟩)] w fun e w' => e = .returned (.bool (bs.all (· == 0))) ∧ w = w' := by
  obtain ⟨q, c0, _, _, _, hc, _⟩ := h.cells
  have hl := h.2.2.1
  have HC := Lib.hid hc
  clear h hc
  go_enter Try.func72, Try.ntmps72
  go_wp2
  go_loop [9] (fun i => ∃ (k : Nat), k ≤ bs.length ∧ i = .int .i64 (k : Int) ∧ Hid (∀ j x : Nat, j < k → bs[j]? = some x → x = 0)) (fun i => bs.length - (intOf i).toNat)
  case atStart => exact ⟨0, by omega, rfl, fun j x hj => by omega⟩
  case round =>
    obtain ⟨k, hk, rfl, HA⟩ := hrel
    by_cases hlt : k < bs.length
    · have hget : bs[k]? = some bs[k] := List.getElem?_eq_getElem hlt
      have HL := Lib.hid (au32_Load ⟨q, k, none⟩ (bs[k] : Int) w (HC.out k _ hget))
      have hlt' : (k : Int) < (bs.length : Int) := by omega
      obtain ⟨x, hx⟩ : ∃ x : Nat, bs[k] = x := ⟨_, rfl⟩
      rw [hx] at HL hget
      have HG := Lib.hid hget
      clear hget hx
      go_wp2_with fail
      refine HL.out.mono ?_; rintro e w1 ⟨rfl, rfl⟩
      clear HL
      by_cases hz : x = 0
      · subst hz
        go_wp2
        go_round
        case rel =>
          refine ⟨k + 1, by omega, by go_num, fun j y hj hy => ?_⟩
          rcases Nat.lt_or_ge j k with h | h
          · exact HA.out j y h hy
          · obtain rfl : j = k := by omega
            have := HG.out
            rw [hy] at this; exact Option.some.inj this
        case measure => simp [intOf]; omega
      · have hz' : ((x : Int) == 0) = false := by simpa using hz
        have hz2 : ((x : Int) != 0) = true := by simpa using hz
        have hr : bs.all (· == 0) = false := by
          rw [Bool.eq_false_iff]
          intro ha
          rw [List.all_eq_true] at ha
          have := ha x (List.mem_of_getElem? HG.out)
          simp at this; exact hz this
        have HRR := Lib.hid hr
        clear hz hr
        go_wp2
        go_ret
        rw [HRR.out]
        exact ⟨rfl, rfl⟩
    · have hr : bs.all (· == 0) = true := by
        rw [List.all_eq_true]
        intro x hx
        obtain ⟨j, hj⟩ := List.getElem?_of_mem hx
        have hjl := (List.getElem?_eq_some_iff.1 hj).1
        simp; exact HA.out j x (by omega) hj
      have HRR := Lib.hid hr
      clear hr
      obtain rfl : k = bs.length := by omega
      go_wp2
      go_ret
      rw [HRR.out]
      exact ⟨rfl, rfl⟩
end
end Go.Proofs.Ytpodeclkgcgpgaa
