import Derived.Test.YtonhlgfgbdiapaaGreatRam2
import Derived.Test.YtonhlgfgbdiapaaGreatTlb2
/- The IOMMU (iommu.IOMMU): its state; what records come to. -/
namespace Go.Proofs.YtonhlgfgbdiapaaGreat
set_option linter.unusedVariables false
set_option linter.unusedSimpArgs false
open Go.RowKit
set_option maxRecDepth 100000

/-- tables, where messages go, the ring -/
structure Us where
  rt : Nat → Nat
  mg : Nat → Nat → Int
  mi : Nat → Nat → Int
  ring : Nat
  rd : Bool
  fi : Nat
  un : Nat
  ov : Bool
def us0 : Us := ⟨fun _ => 0, fun _ _ => 0, fun _ _ => 0, 0, false, 0, 0, false⟩
/-- the cell j of it -/
def usC (rp tp : Option Addr) (s : Us) (j : Nat) : Value :=
  if j = 0 then .pointer rp else if j = 1 then .pointer tp
  else if j < 522 then
    (if (j - 2) % 65 = 0 then .int .u64 (s.rt ((j - 2) / 65) : Int)
     else if (j - 2) % 65 % 2 = 1 then .int .i64 (s.mg ((j - 2) / 65) (((j - 2) % 65 - 1) / 2)) else .int .i64 (s.mi ((j - 2) / 65) (((j - 2) % 65 - 1) / 2)))
  else if j = 522 then .int .u64 (s.ring : Int) else if j = 523 then .bool s.rd else if j = 524 then .int .i64 (s.fi : Int) else if j = 525 then .int .i64 (s.un : Int) else .bool s.ov
def UsIn (cs : Array Value) (rp tp : Option Addr) (s : Us) : Prop := cs.size = 527 ∧ ∀ j, j < 527 → cs[j]? = some (usC rp tp s j)
def UsAt (own : Nat → Nat) (c : Nat) (w : World) (p rp tp : Nat) (s : Us) : Prop := ∃ cs, Blk w p 101 cs ∧ own p = c ∧ UsIn cs (some ⟨rp, 0, none⟩) (some ⟨tp, 0, none⟩) s
/-- what it keeps to; n: how many frames the memory has, from 0 on -/
structure UsOk (n : Nat) (s : Us) : Prop where
  root : ∀ d, s.rt d < 18446744073709551616
  ring : s.ring < 18446744073709551616
  al : s.rd = true → s.ring % 4096 = 0 ∧ s.ring + 4096 ≤ n * 4096
  fi : s.fi < 256
  un : s.un ≤ 255
def usRt (s : Us) (d r : Nat) : Us := { s with rt := fun x => if x = d then r else s.rt x }
def usMs (s : Us) (d k : Nat) (g i : Int) : Us := { s with mg := fun x y => if x = d ∧ y = k then g else s.mg x y, mi := fun x y => if x = d ∧ y = k then i else s.mi x y }
def usRg (s : Us) (a : Nat) : Us := { s with ring := a, rd := true, fi := 0, un := 0 }
/-- is there room for a record -/
def recOk (s : Us) : Bool := s.rd && decide (s.un < 255)
def recS (s : Us) : Us := if recOk s then { s with un := s.un + 1 } else { s with ov := true }
def recA (s : Us) : Nat := s.ring + (s.fi + s.un) % 256 * 16
def recM (s : Us) (m : Nat → Int) (dev kind addr : Int) : Nat → Int := if recOk s then put (put (put m (recA s) 4 dev) (recA s + 4) 4 kind) (recA s + 8) 8 addr else m
def nextOk (s : Us) : Bool := s.rd && decide (s.un ≠ 0)
def nextS (s : Us) : Us := if nextOk s then { s with fi := (s.fi + 1) % 256, un := s.un - 1 } else s
def nextA (s : Us) : Nat := s.ring + s.fi * 16
section
variable {own own' : Nat → Nat} {c p rp tp n : Nat} {w w' : World} {s : Us}
theorem UsAt.step {C : Nat → Prop} (h : UsAt own c w p rp tp s) (hS : Step C own w own' w') (hc : ¬ C c) : UsAt own' c w' p rp tp s := by
  obtain ⟨cs, hb, ho, hs⟩ := h
  obtain ⟨h1, h2⟩ := hS.blk hb ho hc
  exact ⟨cs, h1, h2, hs⟩
theorem UsAt.lt (h : UsAt own c w p rp tp s) : p < w.heap.size := by obtain ⟨cs, hb, _⟩ := h; exact hb.lt
theorem UsAt.own_ (h : UsAt own c w p rp tp s) : own p = c := by obtain ⟨cs, hb, ho, _⟩ := h; exact ho
theorem UsAt.cell (h : UsAt own c w p rp tp s) (j : Nat) (hj : j < 527) : w.cell? ⟨p, j, none⟩ = some (usC (some ⟨rp, 0, none⟩) (some ⟨tp, 0, none⟩) s j) ∧ w.frozen? ⟨p, j, none⟩ = false := by
  obtain ⟨cs, hb, ho, hs, hc⟩ := h
  exact ⟨(hb.cell j).trans (hc j hj), hb.frozen j⟩
/-- a cell is written -/
theorem UsAt.put {v : Value} {s' : Us} (h : UsAt own c w p rp tp s) (j : Nat) (hj : j < 527) (he : usC (some ⟨rp, 0, none⟩) (some ⟨tp, 0, none⟩) s' j = v) (hne : ∀ i, i < 527 → i ≠ j → usC (some ⟨rp, 0, none⟩) (some ⟨tp, 0, none⟩) s' i = usC (some ⟨rp, 0, none⟩) (some ⟨tp, 0, none⟩) s i) :
    UsAt own c (w.setCell ⟨p, j, none⟩ v) p rp tp s' ∧ Step (· = c) own w own (w.setCell ⟨p, j, none⟩ v) := by
  obtain ⟨cs, hb, ho, hs, hc⟩ := h
  refine ⟨⟨_, hb.set_ j v, ho, by simpa using hs, fun i hi => ?_⟩, ⟨(Upd.refl _ _).setCell (.inl ho) _, fun _ _ => rfl⟩⟩
  rw [Array.getElem?_setIfInBounds]
  by_cases hij : j = i
  · subst hij
    rw [if_pos rfl, if_pos (by omega), he]
  · rw [if_neg hij, hc i hi, hne i hi (fun e => hij e.symm)]
theorem usC_root (a b : Option Addr) (s : Us) (d : Nat) (hd : d < 8) : usC a b s (2 + d * 65) = .int .u64 (s.rt d : Int) := by
  unfold usC
  rw [if_neg (by omega), if_neg (by omega), if_pos (by omega), if_pos (by omega), show (2 + d * 65 - 2) / 65 = d from by omega]
theorem usC_mg (a b : Option Addr) (s : Us) (d k : Nat) (hd : d < 8) (hk : k < 32) : usC a b s (2 + d * 65 + 1 + k * 2) = .int .i64 (s.mg d k) := by
  unfold usC
  rw [if_neg (by omega), if_neg (by omega), if_pos (by omega), if_neg (by omega), if_pos (by omega), show (2 + d * 65 + 1 + k * 2 - 2) / 65 = d from by omega, show ((2 + d * 65 + 1 + k * 2 - 2) % 65 - 1) / 2 = k from by omega]
theorem usC_mi (a b : Option Addr) (s : Us) (d k : Nat) (hd : d < 8) (hk : k < 32) : usC a b s (2 + d * 65 + 1 + k * 2 + 1) = .int .i64 (s.mi d k) := by
  unfold usC
  rw [if_neg (by omega), if_neg (by omega), if_pos (by omega), if_neg (by omega), if_neg (by omega), show (2 + d * 65 + 1 + k * 2 + 1 - 2) / 65 = d from by omega, show ((2 + d * 65 + 1 + k * 2 + 1 - 2) % 65 - 1) / 2 = k from by omega]
theorem UsAt.root (h : UsAt own c w p rp tp s) (d : Nat) (hd : d < 8) : w.cell? ⟨p, 2 + d * 65, none⟩ = some (.int .u64 (s.rt d : Int)) := by
  rw [(h.cell (2 + d * 65) (by omega)).1, usC_root _ _ _ _ hd]
theorem UsAt.msg (h : UsAt own c w p rp tp s) (d k : Nat) (hd : d < 8) (hk : k < 32) : w.cell? ⟨p, 2 + d * 65 + 1 + k * 2, none⟩ = some (.int .i64 (s.mg d k)) ∧ w.cell? ⟨p, 2 + d * 65 + 1 + k * 2 + 1, none⟩ = some (.int .i64 (s.mi d k)) := by
  rw [(h.cell (2 + d * 65 + 1 + k * 2) (by omega)).1, (h.cell (2 + d * 65 + 1 + k * 2 + 1) (by omega)).1, usC_mg _ _ _ _ _ hd hk, usC_mi _ _ _ _ _ hd hk]; exact ⟨rfl, rfl⟩
theorem UsAt.rest (h : UsAt own c w p rp tp s) : w.cell? ⟨p, 0, none⟩ = some (.pointer (some ⟨rp, 0, none⟩)) ∧ w.cell? ⟨p, 1, none⟩ = some (.pointer (some ⟨tp, 0, none⟩)) ∧ w.cell? ⟨p, 522, none⟩ = some (.int .u64 (s.ring : Int)) ∧ w.cell? ⟨p, 523, none⟩ = some (.bool s.rd) ∧ w.cell? ⟨p, 524, none⟩ = some (.int .i64 (s.fi : Int)) ∧ w.cell? ⟨p, 525, none⟩ = some (.int .i64 (s.un : Int)) ∧ w.cell? ⟨p, 526, none⟩ = some (.bool s.ov) :=
  ⟨(h.cell 0 (by omega)).1, (h.cell 1 (by omega)).1, (h.cell 522 (by omega)).1, (h.cell 523 (by omega)).1, (h.cell 524 (by omega)).1, (h.cell 525 (by omega)).1, (h.cell 526 (by omega)).1⟩
theorem UsAt.froz (h : UsAt own c w p rp tp s) (j : Nat) (hj : j < 527) : w.frozen? ⟨p, j, none⟩ = false := (h.cell j hj).2
theorem UsAt.wRt (h : UsAt own c w p rp tp s) (d r : Nat) (hd : d < 8) : UsAt own c (w.setCell ⟨p, 2 + d * 65, none⟩ (.int .u64 (r : Int))) p rp tp (usRt s d r) ∧ Step (· = c) own w own (w.setCell ⟨p, 2 + d * 65, none⟩ (.int .u64 (r : Int))) := by
  refine h.put (2 + d * 65) (by omega) ?_ ?_
  · rw [usC_root _ _ _ _ hd]; unfold usRt; simp
  · intro i hi hne
    unfold usC usRt
    split
    · rfl
    · split
      · rfl
      · split
        · split
          · simp only []; rw [if_neg (by omega)]
          · rfl
        · rfl
theorem UsAt.wMs (h : UsAt own c w p rp tp s) (d k : Nat) (g i : Int) (hd : d < 8) (hk : k < 32) :
    UsAt own c ((w.setCell ⟨p, 2 + d * 65 + 1 + k * 2, none⟩ (.int .i64 g)).setCell ⟨p, 2 + d * 65 + 1 + k * 2 + 1, none⟩ (.int .i64 i)) p rp tp (usMs s d k g i) ∧ Step (· = c) own w own ((w.setCell ⟨p, 2 + d * 65 + 1 + k * 2, none⟩ (.int .i64 g)).setCell ⟨p, 2 + d * 65 + 1 + k * 2 + 1, none⟩ (.int .i64 i)) := by
  obtain ⟨h1, hS1⟩ := h.put (s' := { s with mg := fun x y => if x = d ∧ y = k then g else s.mg x y }) (v := .int .i64 g) (2 + d * 65 + 1 + k * 2) (by omega) (by rw [usC_mg _ _ _ _ _ hd hk]; simp) (by
    intro j hj hne
    unfold usC
    split
    · rfl
    · split
      · rfl
      · split
        · split
          · rfl
          · split
            · simp only []; rw [if_neg (by omega)]
            · rfl
        · rfl)
  obtain ⟨h2, hS2⟩ := h1.put (s' := usMs s d k g i) (v := .int .i64 i) (2 + d * 65 + 1 + k * 2 + 1) (by omega) (by rw [usC_mi _ _ _ _ _ hd hk]; unfold usMs; simp) (by
    intro j hj hne
    unfold usC usMs
    split
    · rfl
    · split
      · rfl
      · split
        · split
          · rfl
          · split
            · rfl
            · simp only []; rw [if_neg (by omega)]
        · rfl)
  exact ⟨h2, hS1.trans hS2⟩
/-- a cell behind the devices -/
theorem UsAt.tail {v : Value} {s' : Us} (h : UsAt own c w p rp tp s) (j : Nat) (hj : 522 ≤ j ∧ j < 527) (he : usC (some ⟨rp, 0, none⟩) (some ⟨tp, 0, none⟩) s' j = v) (h1 : s'.rt = s.rt) (h2 : s'.mg = s.mg) (h3 : s'.mi = s.mi)
    (q1 : j ≠ 522 → s'.ring = s.ring) (q2 : j ≠ 523 → s'.rd = s.rd) (q3 : j ≠ 524 → s'.fi = s.fi) (q4 : j ≠ 525 → s'.un = s.un) (q5 : j ≠ 526 → s'.ov = s.ov) :
    UsAt own c (w.setCell ⟨p, j, none⟩ v) p rp tp s' ∧ Step (· = c) own w own (w.setCell ⟨p, j, none⟩ v) := by
  refine h.put j hj.2 he (fun i hi hne => ?_)
  unfold usC
  rw [h1, h2, h3]
  split
  · rfl
  · split
    · rfl
    · split
      · rfl
      · split
        · rw [q1 (by omega)]
        · split
          · rw [q2 (by omega)]
          · split
            · rw [q3 (by omega)]
            · split
              · rw [q4 (by omega)]
              · rw [q5 (by omega)]
/-- the ring is laid -/
theorem UsAt.wRg (h : UsAt own c w p rp tp s) (a : Nat) :
    UsAt own c ((((w.setCell ⟨p, 522, none⟩ (.int .u64 (a : Int))).setCell ⟨p, 523, none⟩ (.bool true)).setCell ⟨p, 524, none⟩ (.int .i64 0)).setCell ⟨p, 525, none⟩ (.int .i64 0)) p rp tp (usRg s a) ∧
      Step (· = c) own w own ((((w.setCell ⟨p, 522, none⟩ (.int .u64 (a : Int))).setCell ⟨p, 523, none⟩ (.bool true)).setCell ⟨p, 524, none⟩ (.int .i64 0)).setCell ⟨p, 525, none⟩ (.int .i64 0)) := by
  obtain ⟨h1, k1⟩ := h.tail (s' := { s with ring := a }) (v := .int .u64 (a : Int)) 522 (by decide) rfl rfl rfl rfl (fun h => absurd rfl h) (fun _ => rfl) (fun _ => rfl) (fun _ => rfl) (fun _ => rfl)
  obtain ⟨h2, k2⟩ := h1.tail (s' := { s with ring := a, rd := true }) (v := .bool true) 523 (by decide) rfl rfl rfl rfl (fun _ => rfl) (fun h => absurd rfl h) (fun _ => rfl) (fun _ => rfl) (fun _ => rfl)
  obtain ⟨h3, k3⟩ := h2.tail (s' := { s with ring := a, rd := true, fi := 0 }) (v := .int .i64 0) 524 (by decide) rfl rfl rfl rfl (fun _ => rfl) (fun _ => rfl) (fun h => absurd rfl h) (fun _ => rfl) (fun _ => rfl)
  obtain ⟨h4, k4⟩ := h3.tail (s' := usRg s a) (v := .int .i64 0) 525 (by decide) rfl rfl rfl rfl (fun _ => rfl) (fun _ => rfl) (fun _ => rfl) (fun h => absurd rfl h) (fun _ => rfl)
  exact ⟨h4, ((k1.trans k2).trans k3).trans k4⟩
theorem UsAt.wUn (h : UsAt own c w p rp tp s) (hr : recOk s = true) (v : Int) (hv : v = (s.un : Int) + 1) : UsAt own c (w.setCell ⟨p, 525, none⟩ (.int .i64 v)) p rp tp (recS s) ∧ Step (· = c) own w own (w.setCell ⟨p, 525, none⟩ (.int .i64 v)) := by
  subst hv
  have e : recS s = { s with un := s.un + 1 } := by unfold recS; rw [hr]; rfl
  rw [e]
  exact h.tail 525 (by decide) rfl rfl rfl rfl (fun _ => rfl) (fun _ => rfl) (fun _ => rfl) (fun h => absurd rfl h) (fun _ => rfl)
theorem UsAt.wOv (h : UsAt own c w p rp tp s) (hr : recOk s = false) : UsAt own c (w.setCell ⟨p, 526, none⟩ (.bool true)) p rp tp (recS s) ∧ Step (· = c) own w own (w.setCell ⟨p, 526, none⟩ (.bool true)) := by
  have e : recS s = { s with ov := true } := by unfold recS; rw [hr]; rfl
  rw [e]
  exact h.tail 526 (by decide) rfl rfl rfl rfl (fun _ => rfl) (fun _ => rfl) (fun _ => rfl) (fun _ => rfl) (fun h => absurd rfl h)
theorem UsAt.wNx (h : UsAt own c w p rp tp s) (hr : nextOk s = true) (f u : Int) (hf : f = (((s.fi + 1) % 256 : Nat) : Int)) (hu : u = ((s.un - 1 : Nat) : Int)) :
    UsAt own c ((w.setCell ⟨p, 524, none⟩ (.int .i64 f)).setCell ⟨p, 525, none⟩ (.int .i64 u)) p rp tp (nextS s) ∧ Step (· = c) own w own ((w.setCell ⟨p, 524, none⟩ (.int .i64 f)).setCell ⟨p, 525, none⟩ (.int .i64 u)) := by
  subst hf; subst hu
  have e : nextS s = { s with fi := (s.fi + 1) % 256, un := s.un - 1 } := by unfold nextS; rw [hr]; rfl
  rw [e]
  obtain ⟨h1, k1⟩ := h.tail (s' := { s with fi := (s.fi + 1) % 256 }) (v := .int .i64 (((s.fi + 1) % 256 : Nat) : Int)) 524 (by decide) rfl rfl rfl rfl (fun _ => rfl) (fun _ => rfl) (fun h => absurd rfl h) (fun _ => rfl) (fun _ => rfl)
  obtain ⟨h2, k2⟩ := h1.tail (s' := { s with fi := (s.fi + 1) % 256, un := s.un - 1 }) (v := .int .i64 ((s.un - 1 : Nat) : Int)) 525 (by decide) rfl rfl rfl rfl (fun _ => rfl) (fun _ => rfl) (fun _ => rfl) (fun h => absurd rfl h) (fun _ => rfl)
  exact ⟨h2, k1.trans k2⟩
end
theorem UsOk.init (n : Nat) : UsOk n us0 := { root := fun d => by show 0 < 18446744073709551616; decide, ring := by show 0 < 18446744073709551616; decide, al := (fun h => by simp [us0] at h), fi := by show 0 < 256; decide, un := by show 0 ≤ 255; decide }
theorem UsOk.kRt {n : Nat} {s : Us} (h : UsOk n s) (d r : Nat) (hr : r < 18446744073709551616) : UsOk n (usRt s d r) := { h with root := fun x => by unfold usRt; simp only []; split; exact hr; exact h.root x }
theorem UsOk.kMs {n : Nat} {s : Us} (h : UsOk n s) (d k : Nat) (g i : Int) : UsOk n (usMs s d k g i) := { h with }
theorem UsOk.kRg {n : Nat} {s : Us} (h : UsOk n s) (a : Nat) (ha : a < 18446744073709551616) (h1 : a % 4096 = 0) (h2 : a + 4096 ≤ n * 4096) : UsOk n (usRg s a) := { root := h.root, ring := ha, al := fun _ => ⟨h1, h2⟩, fi := by show 0 < 256; decide, un := by show 0 ≤ 255; decide }
theorem UsOk.kRec {n : Nat} {s : Us} (h : UsOk n s) : UsOk n (recS s) := by
  unfold recS
  split
  · rename_i hq
    have : s.un < 255 := by unfold recOk at hq; simp at hq; exact hq.2
    exact { root := h.root, ring := h.ring, al := h.al, fi := h.fi, un := by show s.un + 1 ≤ 255; omega }
  · exact { root := h.root, ring := h.ring, al := h.al, fi := h.fi, un := h.un }
theorem UsOk.kNext {n : Nat} {s : Us} (h : UsOk n s) : UsOk n (nextS s) := by
  unfold nextS
  split
  · exact { root := h.root, ring := h.ring, al := h.al, fi := by show (s.fi + 1) % 256 < 256; omega, un := by show s.un - 1 ≤ 255; have := h.un; omega }
  · exact h
theorem recA_in {n : Nat} {s : Us} (h : UsOk n s) (hr : recOk s = true) : recA s + 16 ≤ n * 4096 ∧ s.un < 255 ∧ s.rd = true := by
  unfold recOk at hr
  simp at hr
  have := h.al hr.1
  unfold recA
  refine ⟨by omega, hr.2, hr.1⟩
theorem nextA_in {n : Nat} {s : Us} (h : UsOk n s) (hr : nextOk s = true) : nextA s + 16 ≤ n * 4096 ∧ s.un ≠ 0 ∧ s.rd = true := by
  unfold nextOk at hr
  simp at hr
  have := h.al hr.1
  have := h.fi
  unfold nextA
  refine ⟨by omega, hr.2, hr.1⟩
end Go.Proofs.YtonhlgfgbdiapaaGreat
