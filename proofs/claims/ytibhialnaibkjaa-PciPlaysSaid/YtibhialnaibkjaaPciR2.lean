import Derived.Test.YtibhialnaibkjaaPciR
namespace Go.Proofs.Ytibhialnaibkjaa
set_option linter.unusedVariables false
open Go.RowKit
set_option maxRecDepth 100000

def SlIn (c : Array Value) (o : Nat) (s : Sl) : Prop := c[o]? = some (.int .i64 s.kind) ∧ c[o + 1]? = some (.int .u64 s.cmd) ∧ c[o + 2]? = some (.int .u64 s.base) ∧ c[o + 3]? = some (.int .u64 s.line)
/-- the document's bus, at block p; its slots in block q -/
def RefAt (w : World) (p q : Nat) (L : List Sl) : Prop :=
  ∃ v, Blk w p 52 #[v] ∧ (∀ s ∈ L, s.wf) ∧ ((L = [] ∧ v = .slice none 0 0) ∨
    ∃ cap cur, v = .slice (some ⟨q, 0, none⟩) L.length cap ∧ Blk w q 68 cur ∧ ∀ i s, L[i]? = some s → SlIn cur (i * 4) s)
theorem RefAt.upd {w w' : World} {p q : Nat} {L : List Sl} {S : Nat → Prop} (h : RefAt w p q L) (hU : Upd S w w') (hp : ¬ S p) (hq : ¬ S q) : RefAt w' p q L := by
  obtain ⟨v, hB, hwf, h⟩ := h
  refine ⟨v, hB.upd hU hp, hwf, ?_⟩
  rcases h with h | ⟨cap, cur, e, hb, hd⟩
  · exact .inl h
  · exact .inr ⟨cap, cur, e, hb.upd hU hq, hd⟩
theorem RefAt.ltp {w : World} {p q : Nat} {L : List Sl} (h : RefAt w p q L) : p < w.heap.size := by
  obtain ⟨v, hB, _⟩ := h
  exact hB.lt
theorem RefAt.head {w : World} {p q : Nat} {L : List Sl} (h : RefAt w p q L) : ∃ ad cap, w.cell? ⟨p, 0, none⟩ = some (.slice ad L.length cap) := by
  obtain ⟨v, hB, _, ⟨rfl, rfl⟩ | ⟨cap, cur, rfl, _, _⟩⟩ := h
  · exact ⟨_, _, hB.cell 0⟩
  · exact ⟨_, _, hB.cell 0⟩
theorem RefAt.slot {w : World} {p q : Nat} {L : List Sl} (h : RefAt w p q L) {i : Nat} {s : Sl} (hi : L[i]? = some s) :
    s.wf ∧ ∃ cap cur, w.cell? ⟨p, 0, none⟩ = some (.slice (some ⟨q, 0, none⟩) L.length cap) ∧ Blk w p 52 #[.slice (some ⟨q, 0, none⟩) L.length cap] ∧ Blk w q 68 cur ∧ SlIn cur (i * 4) s := by
  obtain ⟨v, hB, hwf, ⟨rfl, rfl⟩ | ⟨cap, cur, rfl, hq, hd⟩⟩ := h
  · simp at hi
  · exact ⟨hwf s (List.mem_of_getElem? hi), cap, cur, hB.cell 0, hB, hq, hd i s hi⟩
theorem ref_set {w w' : World} {p q : Nat} {L : List Sl} (h : RefAt w p q L) {i : Nat} {s s' : Sl} (hi : L[i]? = some s) (hwf : s'.wf) {c c' : Array Value} (hc : Blk w q 68 c) (hc' : Blk w' q 68 c')
    (hU : Upd (· = q) w w') (hD : SlIn c' (i * 4) s') (hF : ∀ j, j < i * 4 ∨ i * 4 + 4 ≤ j → c'[j]? = c[j]?) : RefAt w' p q (L.set i s') := by
  obtain ⟨v, hB, hwfs, ⟨rfl, rfl⟩ | ⟨cap, cur, rfl, hq, hd⟩⟩ := h
  · simp at hi
  · obtain ⟨rfl, _⟩ := hq.inj hc
    refine ⟨_, hB.upd hU (hB.ne_ hc (by decide)), ?_, .inr ⟨cap, c', by simp, hc', ?_⟩⟩
    · intro x hx
      rcases List.mem_or_eq_of_mem_set hx with hx | rfl
      · exact hwfs x hx
      · exact hwf
    · intro j x hj
      rw [List.getElem?_set] at hj
      split at hj
      · rename_i e; subst e
        split at hj
        · injection hj with hj; subst hj; exact hD
        · cases hj
      · rename_i e
        obtain ⟨h1, h2, h3, h4⟩ := hd j x hj
        exact ⟨by rw [hF _ (by omega)]; exact h1, by rw [hF _ (by omega)]; exact h2, by rw [hF _ (by omega)]; exact h3, by rw [hF _ (by omega)]; exact h4⟩

theorem ref_Kind {w : World} {p q : Nat} {L : List Sl} (h : RefAt w p q L) (slot : Int) :
    Calls Try.prog 17 #[.pointer (some ⟨p, 0, none⟩), .int .i64 slot] w fun e w' => e = .returned (.int .i64 (kindL L slot)) ∧ w = w' := by
  rcases hat : at_ L slot with _ | s
  · have hn := at_none hat
    obtain ⟨ad, cap, hb⟩ := h.head
    have HF := Lib.hid (show kindL L slot = 0 from by simp [kindL, hat])
    clear h hat
    simp only [decide_eq_false_iff_not, not_and, Int.not_lt] at hn
    by_cases h0 : slot < 0
    · clear hn
      go_enter Try.func17, Try.ntmps17
      go_wp2
      go_ret
      rw [HF.out]; exact ⟨rfl, rfl⟩
    · have h1 : (L.length : Int) ≤ slot := hn (by omega)
      clear hn
      go_enter Try.func17, Try.ntmps17
      go_wp2
      go_ret
      rw [HF.out]; exact ⟨rfl, rfl⟩
  · obtain ⟨hs0, hs1, hsi⟩ := at_some hat
    obtain ⟨hwf, cap, cur, hb, _, hq, hD⟩ := h.slot hsi
    have HF := Lib.hid (show kindL L slot = s.kind from by simp [kindL, hat])
    obtain ⟨k, rfl⟩ := Int.eq_ofNat_of_zero_le hs0
    simp only [Int.toNat_natCast] at hD
    have c0 : w.cell? ⟨q, k * 4, none⟩ = some (.int .i64 s.kind) := by rw [hq.cell]; exact hD.1
    clear h hat hq hD hsi hwf
    go_enter Try.func17, Try.ntmps17
    go_wp2
    go_ret
    rw [HF.out]; exact ⟨rfl, rfl⟩
end Go.Proofs.Ytibhialnaibkjaa
