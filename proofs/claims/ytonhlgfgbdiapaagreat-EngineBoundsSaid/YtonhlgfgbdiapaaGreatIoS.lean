import Derived.Test.YtonhlgfgbdiapaaGreatIo
import Derived.Test.YtonhlgfgbdiapaaGreatTlb4
import Derived.Test.YtonhlgfgbdiapaaGreatGst2
/- What is remembered says what the tables say (plain). -/
namespace Go.Proofs.YtonhlgfgbdiapaaGreat
set_option linter.unusedVariables false
set_option linter.unusedSimpArgs false
open Go.RowKit
/-- the right that an access wants: reads 2, writes 4 -/
def needN (acc : Nat) : Nat := if acc = 2 then 2 else 4
theorem and_low (e k : Nat) (hk : 255 &&& k = k) : e &&& k = (e % 256) &&& k := by
  rw [show e % 256 = e &&& 255 from (Nat.and_two_pow_sub_one_eq_mod e 8).symm, Nat.and_assoc, hk]
theorem let_of_perm {e acc acc' : Nat} (hacc : acc = 1 ∨ acc = 2 ∨ acc = 3) (hacc' : acc' = 2 ∨ acc' = 3) (hl : letE e acc = true) (hp : permE e &&& needN acc' ≠ 0) : letE e acc' = true := by
  have key : ∀ q : Nat, q < 256 → ∀ a ∈ [1, 2, 3], ∀ b ∈ [2, 3], letE q a = true → permE q &&& needN b ≠ 0 → letE q b = true := by decide +kernel
  have h1 : ∀ a, letE e a = letE (e % 256) a := by
    intro a
    unfold letE wantN
    split
    · rw [and_low e 88 (by decide)]
    · split
      · rw [and_low e 82 (by decide)]
      · rw [and_low e 212 (by decide)]
  have h2 : permE e = permE (e % 256) := by
    unfold permE
    rw [and_low e 128 (by decide), and_low e 14 (by decide), and_low e 10 (by decide)]
  rw [h1] at hl ⊢
  rw [h2] at hp
  exact key (e % 256) (Nat.mod_lt _ (by decide)) acc (by simp; omega) acc' (by simp; omega) hl hp
theorem dnG_page (b0 n : Nat) (m : Nat → Int) {a a' : Nat} (h : a / 4096 = a' / 4096) (t : Nat) : dnG b0 n m a 2 t = dnG b0 n m a' 2 t := by
  have e0 : a / 2 ^ 12 = a' / 2 ^ 12 := h
  have e1 : a / 2 ^ 21 = a' / 2 ^ 21 := by
    rw [show (2 : Nat) ^ 21 = 2 ^ 12 * 2 ^ 9 from by decide, ← Nat.div_div_eq_div_mul, ← Nat.div_div_eq_div_mul, e0]
  have e2 : a / 2 ^ 30 = a' / 2 ^ 30 := by
    rw [show (2 : Nat) ^ 30 = 2 ^ 12 * 2 ^ 18 from by decide, ← Nat.div_div_eq_div_mul, ← Nat.div_div_eq_div_mul, e0]
  have h0 : ∀ t, dnG b0 n m a 0 t = dnG b0 n m a' 0 t := fun t => by unfold dnG; rw [e0]
  have h1 : ∀ t, dnG b0 n m a 1 t = dnG b0 n m a' 1 t := fun t => by unfold dnG; rw [e1]; simp only [h0]
  unfold dnG
  rw [e2]
  simp only [h1]
theorem plc_page {e lev a a' : Nat} (hl : lev ≤ 2) (h : a / 4096 = a' / 4096) : plcE e lev a' = plcE e lev a / 4096 * 4096 + a' % 4096 := by
  unfold plcE
  generalize nxtE e = N
  rcases (show lev = 0 ∨ lev = 1 ∨ lev = 2 by omega) with rfl | rfl | rfl
  · rw [show (2 : Nat) ^ (12 + 9 * 0) = 4096 from by decide]; omega
  · rw [show (2 : Nat) ^ (12 + 9 * 1) = 2097152 from by decide]; omega
  · rw [show (2 : Nat) ^ (12 + 9 * 2) = 1073741824 from by decide]; omega
/-- the same page, with the right that it gives: what the tables say -/
theorem guest_hit {n : Nat} {m : Nat → Int} (hm : ∀ x, 0 ≤ m x ∧ m x < 256) {root a a' acc acc' : Nat} (hacc : acc = 1 ∨ acc = 2 ∨ acc = 3) (hacc' : acc' = 2 ∨ acc' = 3) (hpg : a / 4096 = a' / 4096) (hr : root ≠ 0)
    (h0 : (guestP 0 n m root a acc).2.2 = 0) (hp : (guestP 0 n m root a acc).2.1 &&& needN acc' ≠ 0) :
    guestP 0 n m root a' acc' = ((guestP 0 n m root a acc).1 / 4096 * 4096 + a' % 4096, (guestP 0 n m root a acc).2.1, 0) := by
  have hok := dnG_ok hm 0 n a root
  have hD := dnG_page 0 n m hpg root
  unfold guestP at h0 hp ⊢
  rw [if_neg hr] at h0 hp ⊢
  rw [if_neg hr]
  by_cases h39 : 549755813888 ≤ a
  · rw [if_pos h39] at h0; simp at h0
  · rw [if_neg h39] at h0 hp ⊢
    rw [if_neg (show ¬ 549755813888 ≤ a' by omega), ← hD]
    by_cases h3 : (dnG 0 n m a 2 root).1 = 3
    · rw [if_pos h3] at h0; simp at h0
    · rw [if_neg h3] at h0 hp ⊢
      rw [if_neg h3]
      by_cases hq : (dnG 0 n m a 2 root).1 = 0 ∧ letE (dnG 0 n m a 2 root).2.1 acc = true
      · rw [if_pos hq] at hp ⊢
        rw [if_pos ⟨hq.1, let_of_perm hacc hacc' hq.2 hp⟩, plc_page hok.lv hpg]
      · rw [if_neg hq] at h0; simp at h0
/-- an entry says what the tables say -/
def SoundT (n : Nat) (m : Nat → Int) (rt : Nat → Nat) (t : Tr) : Prop :=
  ∃ d a acc : Nat, d < 8 ∧ (acc = 2 ∨ acc = 3) ∧ rt d ≠ 0 ∧ t.v = d ∧ t.p = (a / 4096 : Nat) ∧ (guestP 0 n m (rt d) a acc).2.2 = 0 ∧ t.f = ((guestP 0 n m (rt d) a acc).1 / 4096 : Nat) ∧ t.r = ((guestP 0 n m (rt d) a acc).2.1 : Nat)
def SoundL (n : Nat) (m : Nat → Int) (rt : Nat → Nat) (l : List Tr) : Prop := ∀ t ∈ l, SoundT n m rt t
theorem SoundL.put {n : Nat} {m : Nat → Int} {rt : Nat → Nat} {l : List Tr} (h : SoundL n m rt l) {t : Tr} (ht : SoundT n m rt t) (room : Nat) : SoundL n m rt (putT room l t) := by
  have hsub : ∀ x ∈ flushP l t.v t.p, x ∈ l := fun x hx => (List.mem_filter.1 hx).1
  intro x hx
  unfold putT at hx
  rcases List.mem_append.1 hx with hx | hx
  · refine h x (hsub x ?_)
    split at hx
    · exact List.mem_of_mem_drop hx
    · exact hx
  · rw [List.mem_singleton.1 hx]; exact ht
theorem SoundL.flush {n : Nat} {m : Nat → Int} {rt : Nat → Nat} {l : List Tr} (h : SoundL n m rt l) (v : Int) : SoundL n m rt (flushT l v) := fun x hx => h x (List.mem_filter.1 hx).1
/-- what an access comes to by the tables alone: place, kind (0: it is let) -/
def accT (n : Nat) (m : Nat → Int) (root a size acc : Nat) : Nat × Nat :=
  if (guestP 0 n m root a acc).2.2 ≠ 0 then (0, 2) else if hasR 0 n ((guestP 0 n m root a acc).1 : Int) (size : Int) then ((guestP 0 n m root a acc).1, 0) else (0, 3)
/-- with what is remembered: place, kind, what is remembered behind it -/
def accL (n : Nat) (m : Nat → Int) (root : Nat) (room : Nat) (l : List Tr) (d : Nat) (a size acc : Nat) : Nat × Nat × List Tr :=
  match lookT l d (a / 4096 : Nat) with
  | some t => if t.r.toNat &&& needN acc ≠ 0 then (if hasR 0 n ((t.f.toNat * 4096 + a % 4096 : Nat) : Int) (size : Int) then (t.f.toNat * 4096 + a % 4096, 0, l) else (0, 3, l))
    else if (guestP 0 n m root a acc).2.2 ≠ 0 then (0, 2, l) else if hasR 0 n ((guestP 0 n m root a acc).1 : Int) (size : Int) then ((guestP 0 n m root a acc).1, 0, putT room l ⟨d, (a / 4096 : Nat), ((guestP 0 n m root a acc).1 / 4096 : Nat), ((guestP 0 n m root a acc).2.1 : Nat)⟩) else (0, 3, putT room l ⟨d, (a / 4096 : Nat), ((guestP 0 n m root a acc).1 / 4096 : Nat), ((guestP 0 n m root a acc).2.1 : Nat)⟩)
  | none => if (guestP 0 n m root a acc).2.2 ≠ 0 then (0, 2, l) else if hasR 0 n ((guestP 0 n m root a acc).1 : Int) (size : Int) then ((guestP 0 n m root a acc).1, 0, putT room l ⟨d, (a / 4096 : Nat), ((guestP 0 n m root a acc).1 / 4096 : Nat), ((guestP 0 n m root a acc).2.1 : Nat)⟩) else (0, 3, putT room l ⟨d, (a / 4096 : Nat), ((guestP 0 n m root a acc).1 / 4096 : Nat), ((guestP 0 n m root a acc).2.1 : Nat)⟩)
theorem accL_sound {n : Nat} {m : Nat → Int} (hm : ∀ x, 0 ≤ m x ∧ m x < 256) {rt : Nat → Nat} {l : List Tr} (h : SoundL n m rt l) {d : Nat} (hd : d < 8) (hr : rt d ≠ 0) {acc : Nat} (hacc : acc = 2 ∨ acc = 3) (room a size : Nat) :
    ((accL n m (rt d) room l d a size acc).1, (accL n m (rt d) room l d a size acc).2.1) = accT n m (rt d) a size acc ∧ SoundL n m rt (accL n m (rt d) room l d a size acc).2.2 := by
  have hput : (guestP 0 n m (rt d) a acc).2.2 = 0 → SoundL n m rt (putT room l ⟨d, (a / 4096 : Nat), ((guestP 0 n m (rt d) a acc).1 / 4096 : Nat), ((guestP 0 n m (rt d) a acc).2.1 : Nat)⟩) :=
    fun h0 => h.put ⟨d, a, acc, hd, hacc, hr, rfl, rfl, h0, rfl, rfl⟩ room
  have hmiss : ∀ q : Nat × Nat × List Tr, q = (if (guestP 0 n m (rt d) a acc).2.2 ≠ 0 then (0, 2, l) else if hasR 0 n ((guestP 0 n m (rt d) a acc).1 : Int) (size : Int) then ((guestP 0 n m (rt d) a acc).1, 0, putT room l ⟨d, (a / 4096 : Nat), ((guestP 0 n m (rt d) a acc).1 / 4096 : Nat), ((guestP 0 n m (rt d) a acc).2.1 : Nat)⟩) else (0, 3, putT room l ⟨d, (a / 4096 : Nat), ((guestP 0 n m (rt d) a acc).1 / 4096 : Nat), ((guestP 0 n m (rt d) a acc).2.1 : Nat)⟩)) →
      (q.1, q.2.1) = accT n m (rt d) a size acc ∧ SoundL n m rt q.2.2 := by
    intro q hq
    subst hq
    unfold accT
    by_cases h0 : (guestP 0 n m (rt d) a acc).2.2 ≠ 0
    · rw [if_pos h0, if_pos h0]; exact ⟨rfl, h⟩
    · rw [if_neg h0, if_neg h0]
      have h0' : (guestP 0 n m (rt d) a acc).2.2 = 0 := by simpa using h0
      split
      · exact ⟨rfl, hput h0'⟩
      · exact ⟨rfl, hput h0'⟩
  unfold accL
  cases hlk : lookT l d (a / 4096 : Nat) with
  | none => exact hmiss _ rfl
  | some t =>
    simp only []
    by_cases hn : t.r.toNat &&& needN acc ≠ 0
    · rw [if_pos hn]
      have hmem : t ∈ l := List.mem_of_find?_eq_some hlk
      have hpr := List.find?_some hlk
      simp at hpr
      obtain ⟨d', a', acc', hd', hacc', hr', h1, h2, h3, h4, h5⟩ := h t hmem
      obtain rfl : d' = d := by omega
      have hpg : a' / 4096 = a / 4096 := by omega
      rw [h5, Int.toNat_natCast] at hn
      have hg := guest_hit hm (n := n) (.inr hacc') hacc hpg hr h3 hn
      have hf : t.f.toNat = (guestP 0 n m (rt d') a' acc').1 / 4096 := by rw [h4, Int.toNat_natCast]
      have hT : accT n m (rt d') a size acc = if hasR 0 n (((guestP 0 n m (rt d') a' acc').1 / 4096 * 4096 + a % 4096 : Nat) : Int) (size : Int) then ((guestP 0 n m (rt d') a' acc').1 / 4096 * 4096 + a % 4096, 0) else (0, 3) := by
        unfold accT; rw [hg]; rfl
      rw [hT, hf]
      by_cases hh : hasR 0 n (((guestP 0 n m (rt d') a' acc').1 / 4096 * 4096 + a % 4096 : Nat) : Int) (size : Int) = true
      · rw [if_pos hh, if_pos hh]; exact ⟨rfl, h⟩
      · rw [if_neg hh, if_neg hh]; exact ⟨rfl, h⟩
    · rw [if_neg hn]
      exact hmiss _ rfl
end Go.Proofs.YtonhlgfgbdiapaaGreat
