import Derived.Test.YtpodeclkgcgpgaaShref2
import Derived.Test.YtpodeclkgcgpgaaSp8
/- StageShoots' facts. -/
namespace Go.Proofs.Ytpodeclkgcgpgaa
set_option linter.unusedVariables false
set_option linter.unusedSimpArgs false
open Go.RowKit
set_option maxRecDepth 100000

theorem info_tlbpS : (Try.prog.info? 106).map (fun i => (i.zero, i.size, i.bytes)) = some (some (.pointer none), 1, 8) := by kernel_rfl
theorem info_trefpS : (Try.prog.info? 109).map (fun i => (i.zero, i.size, i.bytes)) = some (some (.pointer none), 1, 8) := by kernel_rfl
def ptrS (ps : List Nat) : List Value := ps.map (fun p => Value.pointer (some ⟨p, 0, none⟩))
theorem ptrS_snoc (ps : List Nat) (p : Nat) : ptrS (ps ++ [p]) = ptrS ps ++ [.pointer (some ⟨p, 0, none⟩)] := by simp [ptrS]
theorem ptrS_at (ps : List Nat) (j p : Nat) (h : ps[j]? = some p) : (ptrS ps)[j]? = some (.pointer (some ⟨p, 0, none⟩)) := by simp [ptrS, h]
/-- the law's state: the program's and the document's side by side -/
structure SS (w : World) (own' : Nat → Nat) (wr : World) (sp hp : Nat) (bs bh : List Nat) (v1 : Value) (ps : List Nat) (v2 : Value) (us : List Nat) (L M : Nat → List Tr) : Prop where
  st : Step (fun x => x ≠ 0) (fun _ => 0) w own' wr
  sh : ShAt own' 30 wr sp bs
  hh : HAt own' 31 32 wr hp bh
  r1 : Rw 106 1 own' 20 wr v1 ps.length (ptrS ps)
  r2 : Rw 109 1 own' 21 wr v2 us.length (ptrS us)
  lu : us.length = ps.length
  tl : ∀ j p, ps[j]? = some p → TlbAt own' (100 + 2 * j) (101 + 2 * j) wr p 8 (L j)
  ul : ∀ j p, us[j]? = some p → TrefAt own' (200 + 2 * j) (201 + 2 * j) wr p 8 (M j)
  l8 : ps.length ≤ 8
def updS (L : Nat → List Tr) (r : Nat) (l : List Tr) : Nat → List Tr := fun j => if j = r then l else L j
section
variable {w : World} {own' own2 : Nat → Nat} {wr w2 : World} {sp hp : Nat} {bs bh bs2 : List Nat} {v1 v2 : Value} {ps us : List Nat} {L M : Nat → List Tr}
theorem SS.step {C : Nat → Prop} (h : SS w own' wr sp hp bs bh v1 ps v2 us L M) (hS : Step C own' wr own2 w2) (hc : ∀ x, C x → x < 20 ∧ x ≠ 0) : SS w own2 w2 sp hp bs bh v1 ps v2 us L M :=
  ⟨h.st.trans (hS.mono (fun x hx => (hc x hx).2)), h.sh.step hS (fun e => by have := hc _ e; omega), h.hh.step hS (fun e => by have := hc _ e; omega) (fun e => by have := hc _ e; omega), h.r1.step hS (fun e => by have := hc _ e; omega), h.r2.step hS (fun e => by have := hc _ e; omega), h.lu,
   fun j p hj => (h.tl j p hj).step hS (fun e => by have := hc _ e; omega) (fun e => by have := hc _ e; omega), fun j p hj => (h.ul j p hj).step hS (fun e => by have := hc _ e; omega) (fun e => by have := hc _ e; omega), h.l8⟩
/-- the program's side has turned: the shootdowns, and the TLB of hart r -/
theorem SS.oneS {C : Nat → Prop} (h : SS w own' wr sp hp bs bh v1 ps v2 us L M) (r p : Nat) (hr : ps[r]? = some p) (hS : Step C own' wr own2 w2) (hc : ∀ x, C x → x = 30 ∨ x = 100 + 2 * r ∨ x = 101 + 2 * r) (hsh : ShAt own2 30 w2 sp bs2) {l : List Tr} (hT : TlbAt own2 (100 + 2 * r) (101 + 2 * r) w2 p 8 l) : SS w own2 w2 sp hp bs2 bh v1 ps v2 us (updS L r l) M := by
  have hr8 : r < 8 := by have := (List.getElem?_eq_some_iff.1 hr).1; have := h.l8; omega
  refine ⟨h.st.trans (hS.mono (fun x hx => by have := hc x hx; omega)), hsh, h.hh.step hS (fun e => by have := hc _ e; omega) (fun e => by have := hc _ e; omega), h.r1.step hS (fun e => by have := hc _ e; omega), h.r2.step hS (fun e => by have := hc _ e; omega), h.lu, fun j q hj => ?_, fun j q hj => (h.ul j q hj).step hS (fun e => by have := hc _ e; omega) (fun e => by have := hc _ e; omega), h.l8⟩
  unfold updS
  by_cases e : j = r
  · subst e
    rw [hr] at hj; cases hj
    rw [if_pos rfl]; exact hT
  · rw [if_neg e]
    exact (h.tl j q hj).step hS (fun e => by have := hc _ e; omega) (fun e => by have := hc _ e; omega)
/-- .. the document's -/
theorem SS.oneH {C : Nat → Prop} (h : SS w own' wr sp hp bs bh v1 ps v2 us L M) (r p : Nat) (hr : us[r]? = some p) (hS : Step C own' wr own2 w2) (hc : ∀ x, C x → x = 31 ∨ x = 200 + 2 * r ∨ x = 201 + 2 * r) (hhh : HAt own2 31 32 w2 hp bs2) {l : List Tr} (hT : TrefAt own2 (200 + 2 * r) (201 + 2 * r) w2 p 8 l) : SS w own2 w2 sp hp bs bs2 v1 ps v2 us L (updS M r l) := by
  have hr8 : r < 8 := by have := (List.getElem?_eq_some_iff.1 hr).1; have := h.l8; have := h.lu; omega
  refine ⟨h.st.trans (hS.mono (fun x hx => by have := hc x hx; omega)), h.sh.step hS (fun e => by have := hc _ e; omega), hhh, h.r1.step hS (fun e => by have := hc _ e; omega), h.r2.step hS (fun e => by have := hc _ e; omega), h.lu, fun j q hj => ?_, fun j q hj => ?_, h.l8⟩
  · have hj8 : j < 8 := by have := (List.getElem?_eq_some_iff.1 hj).1; have := h.l8; omega
    exact (h.tl j q hj).step hS (fun e => by have := hc _ e; omega) (fun e => by have := hc _ e; omega)
  unfold updS
  by_cases e : j = r
  · subst e
    rw [hr] at hj; cases hj
    rw [if_pos rfl]; exact hT
  · rw [if_neg e]
    exact (h.ul j q hj).step hS (fun e => by have := hc _ e; omega) (fun e => by have := hc _ e; omega)
theorem SS.post {C : Nat → Prop} (h : SS w own' wr sp hp bs bh v1 ps v2 us L M) (hS : Step C own' wr own2 w2) (hc : ∀ x, C x → x = 30) (hsh : ShAt own2 30 w2 sp bs2) : SS w own2 w2 sp hp bs2 bh v1 ps v2 us L M :=
  ⟨h.st.trans (hS.mono (fun x hx => by have := hc x hx; omega)), hsh, h.hh.step hS (fun e => by have := hc _ e; omega) (fun e => by have := hc _ e; omega), h.r1.step hS (fun e => by have := hc _ e; omega), h.r2.step hS (fun e => by have := hc _ e; omega), h.lu,
   fun j p hj => (h.tl j p hj).step hS (fun e => by have := hc _ e; omega) (fun e => by have := hc _ e; omega), fun j p hj => (h.ul j p hj).step hS (fun e => by have := hc _ e; omega) (fun e => by have := hc _ e; omega), h.l8⟩
theorem SS.postH {C : Nat → Prop} (h : SS w own' wr sp hp bs bh v1 ps v2 us L M) (hS : Step C own' wr own2 w2) (hc : ∀ x, C x → x = 31) (hhh : HAt own2 31 32 w2 hp bs2) : SS w own2 w2 sp hp bs bs2 v1 ps v2 us L M :=
  ⟨h.st.trans (hS.mono (fun x hx => by have := hc x hx; omega)), h.sh.step hS (fun e => by have := hc _ e; omega), hhh, h.r1.step hS (fun e => by have := hc _ e; omega), h.r2.step hS (fun e => by have := hc _ e; omega), h.lu,
   fun j p hj => (h.tl j p hj).step hS (fun e => by have := hc _ e; omega) (fun e => by have := hc _ e; omega), fun j p hj => (h.ul j p hj).step hS (fun e => by have := hc _ e; omega) (fun e => by have := hc _ e; omega), h.l8⟩
/-- a TLB more, of each -/
theorem SS.pushT {own3 : Nat → Nat} {w3 : World} {v3 : Value} {pk : Nat} (h : SS w own' wr sp hp bs bh v1 ps v2 us (fun _ => []) (fun _ => [])) (hn : ps.length < 8) (hS : Step (· = 20) own' wr own3 w3) (hR : Rw 106 1 own3 20 w3 v3 (ps.length + 1) (ptrS ps ++ [.pointer (some ⟨pk, 0, none⟩)])) (hT : TlbAt own' (100 + 2 * ps.length) (101 + 2 * ps.length) wr pk 8 [])
    {own4 : Nat → Nat} {w4 : World} {v4 : Value} {qk : Nat} (hU : TrefAt own' (200 + 2 * ps.length) (201 + 2 * ps.length) wr qk 8 []) (hS4 : Step (· = 21) own3 w3 own4 w4) (hR4 : Rw 109 1 own4 21 w4 v4 (us.length + 1) (ptrS us ++ [.pointer (some ⟨qk, 0, none⟩)])) : SS w own4 w4 sp hp bs bh v3 (ps ++ [pk]) v4 (us ++ [qk]) (fun _ => []) (fun _ => []) := by
  have hS2 : Step (fun x => x = 20 ∨ x = 21) own' wr own4 w4 := (hS.mono (fun x e => Or.inl e)).trans (hS4.mono (fun x e => Or.inr e))
  refine ⟨h.st.trans (hS2.mono (fun x hx => by omega)), h.sh.step hS2 (by omega), h.hh.step hS2 (by omega) (by omega), by rw [List.length_append, ptrS_snoc]; exact hR.step hS4 (by omega), by rw [List.length_append, ptrS_snoc]; exact hR4, by rw [List.length_append, List.length_append, h.lu]; rfl, fun j p hj => ?_, fun j p hj => ?_, by rw [List.length_append]; simp; omega⟩
  · rcases Nat.lt_or_ge j ps.length with hl | hl
    · rw [List.getElem?_append_left hl] at hj
      exact (h.tl j p hj).step hS2 (by omega) (by omega)
    · have hjl := (List.getElem?_eq_some_iff.1 hj).1
      rw [List.length_append] at hjl
      obtain rfl : j = ps.length := by simp at hjl; omega
      rw [List.getElem?_append_right (Nat.le_refl _), Nat.sub_self] at hj
      cases hj
      exact hT.step hS2 (by omega) (by omega)
  · have hlu := h.lu
    rcases Nat.lt_or_ge j us.length with hl | hl
    · rw [List.getElem?_append_left hl] at hj
      exact (h.ul j p hj).step hS2 (by omega) (by omega)
    · have hjl := (List.getElem?_eq_some_iff.1 hj).1
      rw [List.length_append] at hjl
      obtain rfl : j = us.length := by simp at hjl; omega
      rw [List.getElem?_append_right (Nat.le_refl _), Nat.sub_self] at hj
      cases hj
      rw [hlu]
      exact hU.step hS2 (by omega) (by omega)
end
/-- no bit but those of VMIDs -/
def Even (bs : List Nat) : Prop := ∀ b ∈ bs, b % 2 = 0
theorem Even.post {bs : List Nat} (h : Even bs) (v : Nat) (hv : 1 ≤ v) : Even (postL bs v) := by
  intro b hb
  unfold postL at hb
  rw [List.mem_map] at hb
  obtain ⟨a, ha, rfl⟩ := hb
  have h1 := h a ha
  have h0 : (orV a v).testBit 0 = false := by
    rw [testBit_orV, Nat.testBit_zero]
    have : decide (0 = v) = false := by simp; omega
    rw [this]; simp; omega
  rw [Nat.testBit_zero] at h0
  simp at h0; exact h0
theorem Even.serve {bs : List Nat} (h : Even bs) (k b : Nat) : Even (servB bs k b) := by
  intro x hx
  unfold servB at hx
  split at hx
  · exact h x hx
  · rcases List.mem_or_eq_of_mem_set hx with e | e
    · exact h x e
    · rw [e]
theorem due_nil {b : Nat} (hb : b < 65536) (he : b % 2 = 0) : ((dueL b).length == 0) = (b == 0) := by
  by_cases h : b = 0
  · subst h; rw [dueL_zero]; rfl
  · have hne : (b == 0) = false := by simpa using h
    rw [hne]
    simp only [beq_eq_false_iff_ne, ne_eq]
    intro hl
    apply h
    have hnil : dueL b = [] := List.eq_nil_of_length_eq_zero hl
    unfold dueL dueTo at hnil
    rw [List.map_eq_nil_iff, List.filter_eq_nil_iff] at hnil
    apply Nat.eq_of_testBit_eq
    intro i
    rw [Nat.zero_testBit]
    rcases Nat.lt_or_ge i 16 with h16 | h16
    · by_cases h0 : i = 0
      · subst h0; rw [Nat.testBit_zero]; simp; omega
      · have := hnil i (List.mem_range.2 h16)
        simp [h0] at this; exact this
    · exact Nat.testBit_lt_two_pow (Nat.lt_of_lt_of_le hb (by have : 2 ^ 16 ≤ 2 ^ i := Nat.pow_le_pow_right (by decide) h16; omega))
/-- nothing due at the first j harts -/
def idleTo (bs : List Nat) (j : Nat) : Bool := (bs.take j).all (fun b => (dueL b).length == 0)
theorem idleTo_succ (bs : List Nat) (j b : Nat) (h : bs[j]? = some b) : idleTo bs (j + 1) = (idleTo bs j && ((dueL b).length == 0)) := by
  unfold idleTo
  rw [List.take_add_one, h, List.all_append]; simp
theorem idleTo_all {bs : List Nat} (hb : ∀ b ∈ bs, b < 65536) (he : Even bs) {j : Nat} (hj : bs.length ≤ j) : idleTo bs j = bs.all (· == 0) := by
  unfold idleTo
  rw [List.take_of_length_le hj]
  rw [Bool.eq_iff_iff, List.all_eq_true, List.all_eq_true]
  exact ⟨fun h b hbb => by rw [← due_nil (hb b hbb) (he b hbb)]; exact h b hbb, fun h b hbb => by rw [due_nil (hb b hbb) (he b hbb)]; exact h b hbb⟩
theorem sh_Due_out {own : Nat → Nat} {c sp : Nat} {w : World} {bs : List Nat} (h : ShAt own c w sp bs) (k : Int) (hk : k < 0 ∨ (bs.length : Int) ≤ k) :
    Calls Try.prog 71 #[.pointer (some ⟨sp, 0, none⟩), .int .i64 k] w fun e w' => e = .returned (.slice none 0 0) ∧ w = w' := by
  obtain ⟨q, c0, _, _, _, _, _⟩ := h.cells
  have hl := h.2.2.1
  clear h
  by_cases h1 : k < 0
  · have hd : decide (k < 0) = true := by simpa using h1
    clear hk
    go_enter Try.func71, Try.ntmps71
    go_wp2
    go_ret
    exact ⟨rfl, rfl⟩
  · have h2 : (bs.length : Int) ≤ k := by omega
    have hd : decide (k < 0) = false := by simpa using h1
    have hd2 : decide ((bs.length : Int) ≤ k) = true := by simpa using h2
    clear hk
    go_enter Try.func71, Try.ntmps71
    go_wp2
    go_ret
    exact ⟨rfl, rfl⟩
end Go.Proofs.Ytpodeclkgcgpgaa
