import Derived.Test.YtpknabblllighaaVl2
import Derived.ChangeKeysEq
import Derived.LoopN
/- The document's switch: a card's address: whether two are the same; mac. -/
namespace Go.Proofs.Ytpknabblllighaa
set_option linter.unusedVariables false
set_option linter.unusedSimpArgs false
open Go.RowKit Go.Maps
set_option maxRecDepth 100000
theorem mac_eq6 (a0 a1 a2 a3 a4 a5 b0 b1 b2 b3 b4 b5 : Int) (w : World) : (Op.equalIn 10000 52 (encC [a0, a1, a2, a3, a4, a5]) (encC [b0, b1, b2, b3, b4, b5])).run Try.prog w = .ok (decide ([a0, a1, a2, a3, a4, a5] = [b0, b1, b2, b3, b4, b5])) w := by
  have u5 := Try.underlying5
  obtain ⟨i, hi, _⟩ : ∃ i, Try.prog.info? 5 = some i ∧ i.size = 1 := by
    have h : (Try.prog.info? 5).map (fun i => i.size) = some 1 := by kernel_rfl
    cases h2 : Try.prog.info? 5 with
    | none => rw [h2] at h; cases h
    | some i => rw [h2] at h; exact ⟨i, rfl, by simpa using h⟩
  have hc1 : Try.prog.cellsOf 5 = 1 := by kernel_rfl
  have hr : List.range 6 = [0, 1, 2, 3, 4, 5] := by decide
  rw [show (10000 : Nat) = 9999 + 1 from rfl, encC, encC, run_equalIn_array w 9999 _ _ Try.underlying52 hi, hc1, hr]
  simp only [Op.eqItems]
  go_simp
  by_cases h0 : a0 = b0
  · by_cases h1 : a1 = b1
    · by_cases h2 : a2 = b2
      · by_cases h3 : a3 = b3
        · by_cases h4 : a4 = b4
          · by_cases h5 : a5 = b5 <;> simp [h0, h1, h2, h3, h4, h5]
          · simp [h0, h1, h2, h3, h4]
        · simp [h0, h1, h2, h3]
      · simp [h0, h1, h2]
    · simp [h0, h1]
  · simp [h0]
theorem mac_eq (a b : List Int) (ha : a.length = 6) (hb : b.length = 6) (w : World) : (Op.equalIn 10000 52 (encC a) (encC b)).run Try.prog w = .ok (decide (a = b)) w := by
  match a, ha, b, hb with
  | [a0, a1, a2, a3, a4, a5], _, [b0, b1, b2, b3, b4, b5], _ => exact mac_eq6 ..
theorem allocM (w : World) : (Instr.alloc 52 true (.tuple #[])).run Try.prog w = .ok (.pointer (some ⟨w.heap.size, 0, none⟩)) (w.alloc (.cells #[.int .u8 0, .int .u8 0, .int .u8 0, .int .u8 0, .int .u8 0, .int .u8 0] 52)) := by kernel_rfl
theorem infoM : (Try.prog.info? 52).map (·.size) = some 6 := by kernel_rfl
set_option maxHeartbeats 1000000 in
theorem ref_mac (w : World) (g o cap : Nat) (k : List Int) (hk : k.length = 6) (hr : w.rangeAt g o (k.map (fun b => Value.int .u8 b))) (hg : g < w.heap.size) :
    Calls Try.prog 16 #[.slice (some ⟨g, o, none⟩) 6 cap] w fun e w' => e = .returned (encC k) ∧ Upd (fun _ => False) w w' := by
  match k, hk with
  | [k0, k1, k2, k3, k4, k5], _ =>
    have c0 : w.cell? ⟨g, o, none⟩ = some (.int .u8 k0) := hr 0 _ rfl
    have c1 : w.cell? ⟨g, o + 1, none⟩ = some (.int .u8 k1) := hr 1 _ rfl
    have c2 : w.cell? ⟨g, o + 2, none⟩ = some (.int .u8 k2) := hr 2 _ rfl
    have c3 : w.cell? ⟨g, o + 3, none⟩ = some (.int .u8 k3) := hr 3 _ rfl
    have c4 : w.cell? ⟨g, o + 4, none⟩ = some (.int .u8 k4) := hr 4 _ rfl
    have c5 : w.cell? ⟨g, o + 5, none⟩ = some (.int .u8 k5) := hr 5 _ rfl
    clear hr
    go_enter Try.func16, Try.ntmps16
    go_wp2_with (first | ((with_reducible show wpList _ _ _ ((⟨some 2, _, _, _, _, _⟩ : Oper) :: _) _ _); refine wpList_alloc rfl _ rfl (allocM _) ?_) | ((with_reducible show wpList _ _ _ ((⟨some 3, _, _, _, _, _⟩ : Oper) :: _) _ _); refine wpList_alloc rfl _ rfl (allocM _) ?_))
    refine wp_loop_rounds 7 ?_
    rw [rounds_succ]
    go_wp2
    rw [rounds_succ]
    go_wp2
    rw [rounds_succ]
    go_wp2
    rw [rounds_succ]
    go_wp2
    rw [rounds_succ]
    go_wp2
    rw [rounds_succ]
    go_wp2
    rw [rounds_succ]
    go_wp2_with fail
    refine bodyPost_ret (results_cell_row rfl _ _ w.heap.size 52 #[.int .u8 k0, .int .u8 k1, .int .u8 k2, .int .u8 k3, .int .u8 k4, .int .u8 k5] (0, 0) _ rfl ((Blk.new w _ _).alloc _) Try.underlying52 rfl (by kernel_rfl)) rfl ?_
    exact ⟨rfl, ((Upd.refl _ _).alloc _).alloc _⟩
/-- what the document's switch knows: addresses and ports -/
abbrev Mac := List Int × Nat
def macC (e : Mac) : List Value := u8L e.1 ++ [.int .i64 (e.2 : Int)]
def macsC (l : List Mac) : List Value := l.flatMap macC
def WAt (own : Nat → Nat) (c d : Nat) (w : World) (p ports : Nat) (l : List Mac) : Prop :=
  ∃ v, Blk w p 39 #[.int .i64 (ports : Int), v] ∧ own p = c ∧ Rw 57 7 own d w v l.length (macsC l)
theorem WAt.step {C : Nat → Prop} {own own' : Nat → Nat} {c d : Nat} {w w' : World} {p ports : Nat} {l : List Mac} (h : WAt own c d w p ports l) (hS : Step C own w own' w') (hc : ¬ C c) (hd : ¬ C d) : WAt own' c d w' p ports l := by
  obtain ⟨v, hb, ho, hr⟩ := h
  obtain ⟨h1, h2⟩ := hS.blk hb ho hc
  exact ⟨v, h1, h2, hr.step hS hd⟩
theorem ref_NewSwitch_no (ports : Int) (h0 : -9223372036854775808 ≤ ports) (h1 : ports ≤ 9223372036854775807) (hp : ¬ (1 ≤ ports ∧ ports ≤ 8)) (w : World) :
    Calls Try.prog 6 #[.int .i64 ports] w fun e w' => e = .returned (.tuple #[.pointer none, .int .i64 1]) ∧ w' = w := by
  go_enter Try.func6, Try.ntmps6
  have h : ports < 1 ∨ 8 < ports := by omega
  clear hp
  rcases h with h | h
  · go_wp2
    go_ret2
    exact ⟨rfl, rfl⟩
  · have h3 : ¬ ports < 1 := by omega
    go_wp2
    go_ret2
    exact ⟨rfl, rfl⟩
theorem ref_NewSwitch_yes (own : Nat → Nat) (c d : Nat) (ports : Nat) (hp : 1 ≤ ports ∧ ports ≤ 8) (w : World) :
    Calls Try.prog 6 #[.int .i64 (ports : Int)] w fun e w' => ∃ p, e = .returned (.tuple #[.pointer (some ⟨p, 0, none⟩), .int .i64 0]) ∧ ∃ own', Step (fun _ => False) own w own' w' ∧ WAt own' c d w' p ports [] := by
  have h1 : ¬ ((ports : Int) < 1) := by omega
  have h2 : ¬ (8 < (ports : Int)) := by omega
  go_enter Try.func6, Try.ntmps6
  go_wp2
  go_ret2
  exact ⟨_, rfl, ext own w c, ⟨(Upd.refl _ _).alloc _, fun b hb => ext_old _ _ _ hb⟩, _, Blk.new _ _ _, ext_new _ _ _ (Nat.le_refl _), Rw.nil _ _ _ _ _⟩
theorem macC_len (e : Mac) (he : e.1.length = 6) : (macC e).length = 7 := by simp [macC, u8L, he]
theorem macsC_len : ∀ (l : List Mac), (∀ e ∈ l, e.1.length = 6) → (macsC l).length = l.length * 7
  | [], _ => rfl
  | e :: l, h => by
    rw [macsC, List.flatMap_cons, List.length_append, macC_len e (h e (by simp))]
    have := macsC_len l (fun x hx => h x (by simp [hx]))
    rw [macsC] at this
    rw [this, List.length_cons, Nat.add_mul]
    omega
theorem macsC_at : ∀ (l : List Mac), (∀ e ∈ l, e.1.length = 6) → ∀ (i : Nat) (e : Mac), l[i]? = some e → ∀ j v, (macC e)[j]? = some v → (macsC l)[i * 7 + j]? = some v
  | [], _, i, e, h, _, _, _ => by simp at h
  | x :: l, hl, 0, e, h, j, v, hv => by
    cases h
    rw [macsC, List.flatMap_cons, Nat.zero_mul, Nat.zero_add, List.getElem?_append_left (List.getElem?_eq_some_iff.1 hv).1, hv]
  | x :: l, hl, i + 1, e, h, j, v, hv => by
    have := macsC_at l (fun y hy => hl y (by simp [hy])) i e (by simpa using h) j v hv
    rw [macsC, List.flatMap_cons, List.getElem?_append_right (by rw [macC_len x (hl x (by simp))]; omega), macC_len x (hl x (by simp))]
    rw [macsC] at this
    rw [← this]
    congr 1
    omega
theorem macC_last (e : Mac) (he : e.1.length = 6) : (macC e)[6]? = some (.int .i64 (e.2 : Int)) := by
  unfold macC
  rw [List.getElem?_append_right (by simp [u8L, he])]
  simp [u8L, he]
theorem macC_addr (e : Mac) (he : e.1.length = 6) (j : Nat) (v : Value) (h : (u8L e.1)[j]? = some v) : (macC e)[j]? = some v := by
  unfold macC
  rw [List.getElem?_append_left (List.getElem?_eq_some_iff.1 h).1, h]
theorem macsC_snoc (l : List Mac) (e : Mac) : macsC (l ++ [e]) = macsC l ++ macC e := by simp [macsC]
end Go.Proofs.Ytpknabblllighaa
