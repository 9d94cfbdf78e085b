import Derived.Test.YtibhialnaibkjaaPci2
namespace Go.Proofs.Ytibhialnaibkjaa
set_option linter.unusedVariables false
open Go.RowKit
set_option maxRecDepth 100000

theorem BusAt.head {w : World} {p q : Nat} {L : List Sl} (h : BusAt w p q L) : ∃ ad cap, w.cell? ⟨p, 0, none⟩ = some (.slice ad L.length cap) := by
  obtain ⟨v, hB, _, ⟨rfl, rfl⟩ | ⟨cap, cur, rfl, _, _⟩⟩ := h
  · exact ⟨_, _, hB.cell 0⟩
  · exact ⟨_, _, hB.cell 0⟩
theorem BusAt.slot {w : World} {p q : Nat} {L : List Sl} (h : BusAt w p q L) {i : Nat} {s : Sl} (hi : L[i]? = some s) :
    s.wf ∧ ∃ cap cur, w.cell? ⟨p, 0, none⟩ = some (.slice (some ⟨q, 0, none⟩) L.length cap) ∧ Blk w q 60 cur ∧ DevIn cur (i * 257) s.kind (devF s) := by
  obtain ⟨v, hB, hwf, ⟨rfl, rfl⟩ | ⟨cap, cur, rfl, hq, hd⟩⟩ := h
  · simp at hi
  · exact ⟨hwf s (List.mem_of_getElem? hi), cap, cur, hB.cell 0, hq, hd i s hi⟩

theorem BusAt.upd {w w' : World} {p q : Nat} {L : List Sl} {S : Nat → Prop} (h : BusAt w p q L) (hU : Upd S w w') (hp : ¬ S p) (hq : ¬ S q) : BusAt w' p q L := by
  obtain ⟨v, hB, hwf, h⟩ := h
  refine ⟨v, hB.upd hU hp, hwf, ?_⟩
  rcases h with h | ⟨cap, cur, e, hb, hd⟩
  · exact .inl h
  · exact .inr ⟨cap, cur, e, hb.upd hU hq, hd⟩
theorem BusAt.lt {w : World} {p q : Nat} {s : Sl} {L : List Sl} (h : BusAt w p q (s :: L)) : p < w.heap.size ∧ q < w.heap.size ∧ p ≠ q := by
  obtain ⟨v, hB, hwf, ⟨h, _⟩ | ⟨cap, cur, e, hb, hd⟩⟩ := h
  · cases h
  · exact ⟨hB.lt, hb.lt, hB.ne_ hb (by decide)⟩
theorem BusAt.ltp {w : World} {p q : Nat} {L : List Sl} (h : BusAt w p q L) : p < w.heap.size := by
  obtain ⟨v, hB, _⟩ := h
  exact hB.lt
/-- which slot a number names -/
def at_ (L : List Sl) (slot : Int) : Option Sl := if 0 ≤ slot ∧ slot < L.length then L[slot.toNat]? else none
theorem at_some {L : List Sl} {slot : Int} {s : Sl} (h : at_ L slot = some s) : 0 ≤ slot ∧ slot < L.length ∧ L[slot.toNat]? = some s := by
  unfold at_ at h; split at h
  · rename_i h1; exact ⟨h1.1, h1.2, h⟩
  · cases h
theorem at_none {L : List Sl} {slot : Int} (h : at_ L slot = none) : decide (0 ≤ slot ∧ slot < (L.length : Int)) = false := by
  unfold at_ at h; split at h
  · rename_i h1; rw [List.getElem?_eq_none_iff] at h; omega
  · rename_i h1; simpa using h1
def rdS (L : List Sl) (slot off size : Int) : Int × Bool :=
  if fitsZ off size then match at_ L slot with
    | some s => (num (devF s) off.toNat size.toNat, true)
    | none => (2 ^ (8 * size).toNat - 1, true)
  else (0, false)
def wrL (L : List Sl) (slot off size v : Int) : List Sl :=
  if fitsZ off size then match at_ L slot with
    | some s => L.set slot.toNat (wrS s off.toNat size.toNat v)
    | none => L
  else L
def barS (s : Sl) : Int × Bool := (s.base, (s.cmd == 2 || s.cmd == 6) && s.base != 0)
def barL (L : List Sl) (slot : Int) : Int × Bool := match at_ L slot with
  | some s => barS s
  | none => (0, false)

theorem bus_Read {w : World} {p q : Nat} {L : List Sl} (h : BusAt w p q L) (slot off size : Int) (h0 : 0 ≤ off) (h1 : off < 18446744073709551616) :
    Calls Try.prog 11 #[.pointer (some ⟨p, 0, none⟩), .int .i64 slot, .int .u64 off, .int .i64 size] w fun e w' =>
      e = .returned (.tuple #[.int .u64 (rdS L slot off size).1, .bool (rdS L slot off size).2]) ∧ w = w' := by
  by_cases hf : fitsZ off size = true
  · have hr := fitsZ_room h0 hf
    have ho : off < 256 := (fitsZ_iff.1 hf).2.1
    rcases hat : at_ L slot with _ | s
    · have hn := at_none hat
      obtain ⟨ad, cap, hb⟩ := h.head
      have HF := Lib.hid (show rdS L slot off size = (2 ^ (8 * size).toNat - 1, true) from by simp [rdS, hf, hat])
      have HS := (fitsZ_iff.1 hf).1
      clear h hat
      go_enter Try.func11, Try.ntmps11
      go_wp2_with fail
      refine (pci_fits _ _ h0 h1 _).mono ?_; rintro e w' ⟨rfl, rfl⟩; rw [hf]
      go_wp2_with fail
      refine (pci_there _ _ _ _ _ _ hb).mono ?_; rintro e w' ⟨rfl, rfl⟩; rw [hn]
      rcases HS with rfl | rfl | rfl
      all_goals go_wp2
      all_goals go_ret2
      all_goals (rw [HF.out]; exact ⟨rfl, rfl⟩)
    · obtain ⟨hs0, hs1, hsi⟩ := at_some hat
      obtain ⟨hwf, cap, cur, hb, hq, hD⟩ := h.slot hsi
      have HF := Lib.hid (show rdS L slot off size = (num (devF s) off.toNat size.toNat, true) from by simp [rdS, hf, hat])
      have hn : decide (0 ≤ slot ∧ slot < (L.length : Int)) = true := by simp; omega
      have hnum := fun W (hW : w = W) => pci_number q (slot.toNat * 257) (devF s) off size hr.1 hr.2.1 h0 hr.2.2 W (devF_bd s) (fun i hi => by subst hW; rw [hq.cell]; exact hD.2 i hi)
      have HN := Lib.hid hnum
      clear h hat hnum hq hD hsi hwf
      obtain ⟨k, rfl⟩ := Int.eq_ofNat_of_zero_le hs0
      simp only [Int.toNat_natCast] at HN
      go_enter Try.func11, Try.ntmps11
      go_wp2_with fail
      refine (pci_fits _ _ h0 h1 _).mono ?_; rintro e w' ⟨rfl, rfl⟩; rw [hf]
      go_wp2_with fail
      refine (pci_there _ _ _ _ _ _ hb).mono ?_; rintro e w' ⟨rfl, rfl⟩; rw [hn]
      go_wp2_with fail
      refine (HN.out _ rfl).mono ?_; rintro e w' ⟨rfl, rfl⟩
      go_wp2
      go_ret2
      rw [HF.out]; exact ⟨rfl, rfl⟩
  · have hf' : fitsZ off size = false := by simpa using hf
    have HF := Lib.hid (show rdS L slot off size = (0, false) from by simp [rdS, hf])
    clear h hf
    go_enter Try.func11, Try.ntmps11
    go_wp2_with fail
    refine (pci_fits _ _ h0 h1 _).mono ?_; rintro e w' ⟨rfl, rfl⟩; rw [hf']
    go_wp2
    go_ret2
    rw [HF.out]; exact ⟨rfl, rfl⟩

theorem bus_set {w w' : World} {p q : Nat} {L : List Sl} (h : BusAt w p q L) {i : Nat} {s s' : Sl} (hi : L[i]? = some s) (hwf : s'.wf) {c c' : Array Value} (hc : Blk w q 60 c) (hc' : Blk w' q 60 c')
    (hU : Upd (· = q) w w') (hD : DevIn c' (i * 257) s'.kind (devF s')) (hF : ∀ j, j < i * 257 ∨ i * 257 + 257 ≤ j → c'[j]? = c[j]?) : BusAt w' p q (L.set i s') := by
  obtain ⟨v, hB, hwfs, ⟨rfl, rfl⟩ | ⟨cap, cur, rfl, hq, hd⟩⟩ := h
  · simp at hi
  · obtain ⟨rfl, _⟩ := hq.inj hc
    refine ⟨_, hB.upd hU (hB.ne_ hc (by decide)), ?_, .inr ⟨cap, c', by simp, hc', ?_⟩⟩
    · intro x hx
      rcases List.mem_or_eq_of_mem_set hx with hx | rfl
      · exact hwfs x hx
      · exact hwf
    · intro j x hj
      rw [List.getElem?_set] at hj
      split at hj
      · rename_i e; subst e
        split at hj
        · injection hj with hj; subst hj; exact hD
        · cases hj
      · rename_i e
        obtain ⟨h1, h2⟩ := hd j x hj
        have far : ∀ k, k < 257 → c'[j * 257 + k]? = cur[j * 257 + k]? := fun k hk => hF _ (by omega)
        exact ⟨by have := far 0 (by omega); rw [Nat.add_zero] at this; rw [this]; exact h1, fun k hk => by have := far (1 + k) (by omega); rw [← Nat.add_assoc] at this; rw [this]; exact h2 k hk⟩

theorem bus_Write {w : World} {p q : Nat} {L : List Sl} (h : BusAt w p q L) (slot off size v : Int) (h0 : 0 ≤ off) (h1 : off < 18446744073709551616) (hv : 0 ≤ v) (hv1 : v < 18446744073709551616) :
    Calls Try.prog 10 #[.pointer (some ⟨p, 0, none⟩), .int .i64 slot, .int .u64 off, .int .i64 size, .int .u64 v] w fun e w' =>
      e = .returned (.bool (fitsZ off size)) ∧ BusAt w' p q (wrL L slot off size v) ∧ Upd (· = q) w w' := by
  by_cases hf : fitsZ off size = true
  · have hr := fitsZ_room h0 hf
    have ho : off < 256 := (fitsZ_iff.1 hf).2.1
    rcases hat : at_ L slot with _ | s
    · have hn := at_none hat
      obtain ⟨ad, cap, hb⟩ := h.head
      have HF := Lib.hid (show BusAt w p q (wrL L slot off size v) from by simp only [wrL, hf, hat, if_true]; exact h)
      clear h hat
      go_enter Try.func10, Try.ntmps10
      go_wp2_with fail
      refine (pci_fits _ _ h0 h1 _).mono ?_; rintro e w' ⟨rfl, rfl⟩; rw [hf]
      go_wp2_with fail
      refine (pci_there _ _ _ _ _ _ hb).mono ?_; rintro e w' ⟨rfl, rfl⟩; rw [hn]
      go_wp2
      go_ret
      exact ⟨by rw [hf]; rfl, HF.out, Upd.refl _ _⟩
    · obtain ⟨hs0, hs1, hsi⟩ := at_some hat
      obtain ⟨hwf, cap, cur, hb, hq, hD⟩ := h.slot hsi
      have HF := Lib.hid (show wrL L slot off size v = L.set slot.toNat (wrS s off.toNat size.toNat v) from by simp [wrL, hf, hat])
      have hn : decide (0 ≤ slot ∧ slot < (L.length : Int)) = true := by simp; omega
      have HB := Lib.hid (And.intro h (And.intro hsi (And.intro hwf (And.intro hq hD))))
      clear h hat hq hD hsi hwf
      obtain ⟨k, rfl⟩ := Int.eq_ofNat_of_zero_le hs0
      obtain ⟨off, rfl⟩ := Int.eq_ofNat_of_zero_le h0
      obtain ⟨size, rfl⟩ := Int.eq_ofNat_of_zero_le hr.1
      obtain ⟨hr0, hr1, hr2⟩ := hr
      simp only [Int.toNat_natCast] at HB HF
      go_enter Try.func10, Try.ntmps10
      go_wp2_with fail
      refine (pci_fits _ _ h0 h1 _).mono ?_; rintro e w' ⟨rfl, rfl⟩; rw [hf]
      go_wp2_with fail
      refine (pci_there _ _ _ _ _ _ hb).mono ?_; rintro e w' ⟨rfl, rfl⟩; rw [hn]
      go_wp2_with fail
      go_loopw [29] (fun i wr => ∃ (m : Nat), m ≤ size ∧ i = .int .i64 (m : Int) ∧ Hid (∃ c, Blk wr q 60 c ∧ DevIn c (k * 257) s.kind (wrF (devF s) off m v) ∧ (∀ j, j < k * 257 ∨ k * 257 + 257 ≤ j → c[j]? = cur[j]?) ∧ Upd (· = q) w wr)) (fun i _ => size - (intOf i).toNat)
      case atStart => exact ⟨0, by omega, rfl, cur, HB.out.2.2.2.1, by rw [wrF_zero]; exact HB.out.2.2.2.2, fun _ _ => rfl, Upd.refl _ _⟩
      case round =>
        obtain ⟨m, hm, rfl, HV⟩ := hrel
        by_cases hlt : m < size
        · obtain ⟨c, hc, hD, hFr, hU⟩ := HV.out
          have hcell : wr.cell? ⟨q, k * 257 + 1 + (off + m), none⟩ = some (.int .u8 (devF s (off + m))) := by rw [hc.cell, hD.2 _ (by omega), wrF_at]
          have hfr : wr.frozen? ⟨q, k * 257 + 1 + (off + m), none⟩ = false := hc.frozen _
          have hbd := devF_bd s (off + m)
          have HH := Lib.hid (And.intro hc (And.intro hD (And.intro hFr hU)))
          clear hc hD hFr hU
          go_wp2
          refine wpE_region (S := fun W => W = wr.drew) (s := 23) (by kernel_rfl) ?_
          have hS : (fun W => W = wr.drew) _ := rfl
          refine wpE_take (i := 0) (oi := { dst := some 36, op := Go.Op.move (Go.Operand.tmp 11), type := 64, pos := "pci.go:116", after := #[], guard := none }) (v := ?_) rfl (by kernel_rfl) (fun _ _ _ h => h) (Or.inl ⟨by rfl, fun W hW => ?_⟩) hS ?_
          rotate_left
          · subst hW; go_simp; (try go_bits); (try rw [if_pos (by omega)]); (try with_reducible rfl)
          (try simp only [Act.put, List.setIfInBounds_toArray, List.set_cons_succ, List.set_cons_zero])
          refine wpE_take (i := 1) (oi := { dst := some 37, op := Go.Op.move (Go.Operand.tmp 13), type := 3, pos := "pci.go:116", after := #[], guard := none }) (v := ?_) rfl (by kernel_rfl) (fun _ _ _ h => h) (Or.inl ⟨by rfl, fun W hW => ?_⟩) hS ?_
          rotate_left
          · subst hW; go_simp; (try go_bits); (try rw [if_pos (by omega)]); (try with_reducible rfl)
          (try simp only [Act.put, List.setIfInBounds_toArray, List.set_cons_succ, List.set_cons_zero])
          refine wpE_take (i := 2) (oi := { dst := some 38, op := Go.Op.move (Go.Operand.tmp 11), type := 64, pos := "pci.go:116", after := #[], guard := none }) (v := ?_) rfl (by kernel_rfl) (fun _ _ _ h => h) (Or.inl ⟨by rfl, fun W hW => ?_⟩) hS ?_
          rotate_left
          · subst hW; go_simp; (try go_bits); (try rw [if_pos (by omega)]); (try with_reducible rfl)
          (try simp only [Act.put, List.setIfInBounds_toArray, List.set_cons_succ, List.set_cons_zero])
          refine wpE_take (i := 3) (oi := { dst := some 39, op := Go.Op.move (Go.Operand.tmp 13), type := 3, pos := "pci.go:116", after := #[], guard := none }) (v := ?_) rfl (by kernel_rfl) (fun _ _ _ h => h) (Or.inl ⟨by rfl, fun W hW => ?_⟩) hS ?_
          rotate_left
          · subst hW; go_simp; (try go_bits); (try rw [if_pos (by omega)]); (try with_reducible rfl)
          (try simp only [Act.put, List.setIfInBounds_toArray, List.set_cons_succ, List.set_cons_zero])
          refine wpE_take (i := 4) (oi := { dst := some 40, op := Go.Op.nilCheck (Go.Operand.tmp 38), type := 0, pos := "pci.go:116", after := #[{ on := 2, ground := Go.Ground.data }], guard := none }) (v := ?_) rfl (by kernel_rfl) (fun _ _ _ h => h) (Or.inl ⟨by rfl, fun W hW => ?_⟩) hS ?_
          rotate_left
          · subst hW; go_simp; (try go_bits); (try rw [if_pos (by omega)]); (try with_reducible rfl)
          (try simp only [Act.put, List.setIfInBounds_toArray, List.set_cons_succ, List.set_cons_zero])
          refine wpE_take (i := 5) (oi := { dst := some 41, op := Go.Op.fieldAddr 60 (Go.Operand.tmp 40) 1, type := 0, pos := "pci.go:116", after := #[{ on := 4, ground := Go.Ground.data }], guard := none }) (v := ?_) rfl (by kernel_rfl) (fun _ _ _ h => h) (Or.inl ⟨by rfl, fun W hW => ?_⟩) hS ?_
          rotate_left
          · subst hW; go_simp; (try go_bits); (try rw [if_pos (by omega)]); (try with_reducible rfl)
          (try simp only [Act.put, List.setIfInBounds_toArray, List.set_cons_succ, List.set_cons_zero])
          refine wpE_take (i := 6) (oi := { dst := some 42, op := Go.Op.indexAddr 58 (Go.Operand.tmp 41) (Go.Operand.tmp 39), type := 0, pos := "pci.go:116", after := #[{ on := 5, ground := Go.Ground.data }, { on := 3, ground := Go.Ground.data }], guard := none }) (v := ?_) rfl (by kernel_rfl) (fun _ _ _ h => h) (Or.inl ⟨by rfl, fun W hW => ?_⟩) hS ?_
          rotate_left
          · subst hW; go_simp; (try go_bits); (try rw [if_pos (by omega)]); (try with_reducible rfl)
          (try simp only [Act.put, List.setIfInBounds_toArray, List.set_cons_succ, List.set_cons_zero])
          refine wpE_take (i := 7) (oi := { dst := some 43, op := Go.Op.load 5 (Go.Operand.tmp 42), type := 5, pos := "pci.go:116", after := #[{ on := 6, ground := Go.Ground.data }], guard := none }) (v := ?_) rfl (by kernel_rfl) (fun _ _ _ h => h) (Or.inl ⟨by rfl, fun W hW => ?_⟩) hS ?_
          rotate_left
          · subst hW; go_simp; (try go_bits); (try rw [if_pos (by omega)]); (try with_reducible rfl)
          (try simp only [Act.put, List.setIfInBounds_toArray, List.set_cons_succ, List.set_cons_zero])
          refine wpE_take (i := 8) (oi := { dst := some 44, op := Go.Op.move (Go.Operand.tmp 13), type := 3, pos := "pci.go:116", after := #[], guard := none }) (v := ?_) rfl (by kernel_rfl) (fun _ _ _ h => h) (Or.inl ⟨by rfl, fun W hW => ?_⟩) hS ?_
          rotate_left
          · subst hW; go_simp; (try go_bits); (try rw [if_pos (by omega)]); (try with_reducible rfl)
          (try simp only [Act.put, List.setIfInBounds_toArray, List.set_cons_succ, List.set_cons_zero])
          refine wpE_take (i := 11) (oi := { dst := some 47, op := Go.Op.move (Go.Operand.tmp 4), type := 22, pos := "pci.go:116", after := #[], guard := none }) (v := ?_) rfl (by kernel_rfl) (fun _ _ _ h => h) (Or.inl ⟨by rfl, fun W hW => ?_⟩) hS ?_
          rotate_left
          · subst hW; go_simp; (try go_bits); (try rw [if_pos (by omega)]); (try with_reducible rfl)
          (try simp only [Act.put, List.setIfInBounds_toArray, List.set_cons_succ, List.set_cons_zero])
          refine wpE_take (i := 12) (oi := { dst := some 48, op := Go.Op.move (Go.Operand.tmp 12), type := 3, pos := "pci.go:116", after := #[], guard := none }) (v := ?_) rfl (by kernel_rfl) (fun _ _ _ h => h) (Or.inl ⟨by rfl, fun W hW => ?_⟩) hS ?_
          rotate_left
          · subst hW; go_simp; (try go_bits); (try rw [if_pos (by omega)]); (try with_reducible rfl)
          (try simp only [Act.put, List.setIfInBounds_toArray, List.set_cons_succ, List.set_cons_zero])
          refine wpE_take (i := 13) (oi := { dst := some 49, op := Go.Op.binOp Go.BinOp.mul 3 (Go.Operand.const (Go.Value.int Go.IntKind.i64 8)) (Go.Operand.tmp 48) 3, type := 3, pos := "pci.go:116", after := #[{ on := 12, ground := Go.Ground.data }], guard := none }) (v := ?_) rfl (by kernel_rfl) (fun _ _ _ h => h) (Or.inl ⟨by rfl, fun W hW => ?_⟩) hS ?_
          rotate_left
          · subst hW; go_simp; (try go_bits); (try rw [if_pos (by omega)]); (try with_reducible rfl)
          (try simp only [Act.put, List.setIfInBounds_toArray, List.set_cons_succ, List.set_cons_zero])
          refine wpE_take (i := 14) (oi := { dst := some 50, op := Go.Op.binOp Go.BinOp.shr 22 (Go.Operand.tmp 47) (Go.Operand.tmp 49) 3, type := 22, pos := "pci.go:116", after := #[{ on := 11, ground := Go.Ground.data }, { on := 13, ground := Go.Ground.data }], guard := none }) (v := ?_) rfl (by kernel_rfl) (fun _ _ _ h => h) (Or.inl ⟨by rfl, fun W hW => ?_⟩) hS ?_
          rotate_left
          · subst hW; go_simp; (try go_bits); (try rw [if_pos (by omega)]); (try with_reducible rfl)
          (try simp only [Act.put, List.setIfInBounds_toArray, List.set_cons_succ, List.set_cons_zero])
          refine wpE_take (i := 15) (oi := { dst := some 51, op := Go.Op.convert 22 5 (Go.Operand.tmp 50), type := 5, pos := "pci.go:116", after := #[{ on := 14, ground := Go.Ground.data }], guard := none }) (v := ?_) rfl (by kernel_rfl) (fun _ _ _ h => h) (Or.inl ⟨by rfl, fun W hW => ?_⟩) hS ?_
          rotate_left
          · subst hW; go_simp; (try go_bits); (try rw [if_pos (by omega)]); (try with_reducible rfl)
          (try simp only [Act.put, List.setIfInBounds_toArray, List.set_cons_succ, List.set_cons_zero])
          refine wpE_take (i := 16) (oi := { dst := some 52, op := Go.Op.move (Go.Operand.tmp 13), type := 3, pos := "pci.go:116", after := #[], guard := none }) (v := ?_) rfl (by kernel_rfl) (fun _ _ _ h => h) (Or.inl ⟨by rfl, fun W hW => ?_⟩) hS ?_
          rotate_left
          · subst hW; go_simp; (try go_bits); (try rw [if_pos (by omega)]); (try with_reducible rfl)
          (try simp only [Act.put, List.setIfInBounds_toArray, List.set_cons_succ, List.set_cons_zero])
          refine wpE_take (i := 20) (oi := { dst := some 56, op := Go.Op.nilCheck (Go.Operand.tmp 36), type := 0, pos := "pci.go:116", after := #[{ on := 0, ground := Go.Ground.data }], guard := none }) (v := ?_) rfl (by kernel_rfl) (fun _ _ _ h => h) (Or.inl ⟨by rfl, fun W hW => ?_⟩) hS ?_
          rotate_left
          · subst hW; go_simp; (try go_bits); (try rw [if_pos (by omega)]); (try with_reducible rfl)
          (try simp only [Act.put, List.setIfInBounds_toArray, List.set_cons_succ, List.set_cons_zero])
          refine wpE_take (i := 21) (oi := { dst := some 57, op := Go.Op.fieldAddr 60 (Go.Operand.tmp 56) 1, type := 0, pos := "pci.go:116", after := #[{ on := 20, ground := Go.Ground.data }], guard := none }) (v := ?_) rfl (by kernel_rfl) (fun _ _ _ h => h) (Or.inl ⟨by rfl, fun W hW => ?_⟩) hS ?_
          rotate_left
          · subst hW; go_simp; (try go_bits); (try rw [if_pos (by omega)]); (try with_reducible rfl)
          (try simp only [Act.put, List.setIfInBounds_toArray, List.set_cons_succ, List.set_cons_zero])
          refine wpE_only (i := 9) (oi := { dst := some 45, op := Go.Op.call { callee := Go.Callee.value (Go.Operand.func 26), args := #[Go.Operand.tmp 44], argTypes := #[3] }, type := 5, pos := "pci.go:116", after := #[{ on := 8, ground := Go.Ground.data }], guard := none }) rfl (by kernel_rfl) (by rfl) (fun K hK => ?_)
          go_simp; refine (pci_mask _ _).mono ?_; rintro e w' ⟨rfl, rfl⟩; refine hK _ _ hS ?_; clear hK K
          (try simp only [Act.put, List.setIfInBounds_toArray, List.set_cons_succ, List.set_cons_zero])
          refine wpE_take (i := 10) (oi := { dst := some 46, op := Go.Op.binOp Go.BinOp.andNot 5 (Go.Operand.tmp 43) (Go.Operand.tmp 45) 5, type := 5, pos := "pci.go:116", after := #[{ on := 7, ground := Go.Ground.data }, { on := 9, ground := Go.Ground.data }], guard := none }) (v := ?_) rfl (by kernel_rfl) (fun _ _ _ h => h) (Or.inl ⟨by rfl, fun W hW => ?_⟩) hS ?_
          rotate_left
          · subst hW; go_simp; (try go_bits); (try rw [if_pos (by omega)]); (try with_reducible rfl)
          (try simp only [Act.put, List.setIfInBounds_toArray, List.set_cons_succ, List.set_cons_zero])
          refine wpE_only (i := 17) (oi := { dst := some 53, op := Go.Op.call { callee := Go.Callee.value (Go.Operand.func 26), args := #[Go.Operand.tmp 52], argTypes := #[3] }, type := 5, pos := "pci.go:116", after := #[{ on := 16, ground := Go.Ground.data }, { on := 9, ground := Go.Ground.chain }], guard := none }) rfl (by kernel_rfl) (by rfl) (fun K hK => ?_)
          go_simp; refine (pci_mask _ _).mono ?_; rintro e w' ⟨rfl, rfl⟩; refine hK _ _ hS ?_; clear hK K
          (try simp only [Act.put, List.setIfInBounds_toArray, List.set_cons_succ, List.set_cons_zero])
          refine wpE_take (i := 18) (oi := { dst := some 54, op := Go.Op.binOp Go.BinOp.and 5 (Go.Operand.tmp 51) (Go.Operand.tmp 53) 5, type := 5, pos := "pci.go:116", after := #[{ on := 15, ground := Go.Ground.data }, { on := 17, ground := Go.Ground.data }], guard := none }) (v := ?_) rfl (by kernel_rfl) (fun _ _ _ h => h) (Or.inl ⟨by rfl, fun W hW => ?_⟩) hS ?_
          rotate_left
          · subst hW; go_simp; (try go_bits); (try rw [if_pos (by omega)]); (try with_reducible rfl)
          (try simp only [Act.put, List.setIfInBounds_toArray, List.set_cons_succ, List.set_cons_zero])
          refine wpE_take (i := 19) (oi := { dst := some 55, op := Go.Op.binOp Go.BinOp.or 5 (Go.Operand.tmp 46) (Go.Operand.tmp 54) 5, type := 5, pos := "pci.go:116", after := #[{ on := 10, ground := Go.Ground.data }, { on := 18, ground := Go.Ground.data }], guard := none }) (v := ?_) rfl (by kernel_rfl) (fun _ _ _ h => h) (Or.inl ⟨by rfl, fun W hW => ?_⟩) hS ?_
          rotate_left
          · subst hW; go_simp; (try go_bits); (try rw [if_pos (by omega)]); (try with_reducible rfl)
          (try simp only [Act.put, List.setIfInBounds_toArray, List.set_cons_succ, List.set_cons_zero])
          refine wpE_take (i := 22) (oi := { dst := some 58, op := Go.Op.indexAddr 58 (Go.Operand.tmp 57) (Go.Operand.tmp 37), type := 0, pos := "pci.go:116", after := #[{ on := 21, ground := Go.Ground.data }, { on := 1, ground := Go.Ground.data }, { on := 0, ground := Go.Ground.phase }, { on := 1, ground := Go.Ground.phase }, { on := 2, ground := Go.Ground.phase }, { on := 3, ground := Go.Ground.phase }, { on := 4, ground := Go.Ground.phase }, { on := 5, ground := Go.Ground.phase }, { on := 6, ground := Go.Ground.phase }, { on := 7, ground := Go.Ground.phase }, { on := 8, ground := Go.Ground.phase }, { on := 9, ground := Go.Ground.phase }, { on := 10, ground := Go.Ground.phase }, { on := 11, ground := Go.Ground.phase }, { on := 12, ground := Go.Ground.phase }, { on := 13, ground := Go.Ground.phase }, { on := 14, ground := Go.Ground.phase }, { on := 15, ground := Go.Ground.phase }, { on := 16, ground := Go.Ground.phase }, { on := 17, ground := Go.Ground.phase }, { on := 18, ground := Go.Ground.phase }, { on := 19, ground := Go.Ground.phase }], guard := none }) (v := ?_) rfl (by kernel_rfl) (fun _ _ _ h => h) (Or.inl ⟨by rfl, fun W hW => ?_⟩) hS ?_
          rotate_left
          · subst hW; go_simp; (try go_bits); (try rw [if_pos (by omega)]); (try with_reducible rfl)
          (try simp only [Act.put, List.setIfInBounds_toArray, List.set_cons_succ, List.set_cons_zero])
          refine wpE_last (oi := { dst := none, op := Go.Op.store 5 (Go.Operand.tmp 58) (Go.Operand.tmp 55), type := 0, pos := "pci.go:116", after := #[{ on := 22, ground := Go.Ground.data }, { on := 19, ground := Go.Ground.data }, { on := 17, ground := Go.Ground.chain }, { on := 0, ground := Go.Ground.phase }, { on := 1, ground := Go.Ground.phase }, { on := 2, ground := Go.Ground.phase }, { on := 3, ground := Go.Ground.phase }, { on := 4, ground := Go.Ground.phase }, { on := 5, ground := Go.Ground.phase }, { on := 6, ground := Go.Ground.phase }, { on := 7, ground := Go.Ground.phase }, { on := 8, ground := Go.Ground.phase }, { on := 9, ground := Go.Ground.phase }, { on := 10, ground := Go.Ground.phase }, { on := 11, ground := Go.Ground.phase }, { on := 12, ground := Go.Ground.phase }, { on := 13, ground := Go.Ground.phase }, { on := 14, ground := Go.Ground.phase }, { on := 15, ground := Go.Ground.phase }, { on := 16, ground := Go.Ground.phase }, { on := 17, ground := Go.Ground.phase }, { on := 18, ground := Go.Ground.phase }, { on := 19, ground := Go.Ground.phase }], guard := none }) rfl (by kernel_rfl) (by kernel_rfl) (by rfl) (fun K hK => ?_)
          go_simp; (try go_bits); refine hK _ _ ?_; clear hK K
          go_wp2
          obtain ⟨hc, hD, hFr, hU⟩ := HH.out
          refine ⟨⟨m + 1, by omega, by go_num, ⟨_, (hc.set_ (k * 257 + 1 + (off + m)) _).drew, ?_, ?_, (hU.setCell (p := ⟨q, _, none⟩) (.inl rfl) _).drew⟩⟩, by simp [intOf]; omega⟩
          · have hlen := lt_of_cell? (hD.2 (off + m) (by omega))
            refine ⟨by rw [getElem?_set_ne _ (by omega)]; exact hD.1, fun i hi => ?_⟩
            rw [wrF_succ, shr_byte]
            by_cases e : i = off + m
            · subst e; rw [if_pos rfl, getElem?_set_eq _ hlen]; rfl
            · rw [if_neg e, getElem?_set_ne _ (by omega)]; exact hD.2 i hi
          · intro i hi
            rw [getElem?_set_ne _ (by omega)]; exact hFr i hi
        · obtain rfl : m = size := by omega
          go_wp2
          go_ret
          obtain ⟨hbus, hsi, hwf, hq, hD0⟩ := HB.out
          obtain ⟨c, hc, hD, hFr, hU⟩ := HV.out
          refine ⟨by rw [hf]; rfl, ?_, hU⟩
          rw [HF.out]
          exact bus_set hbus hsi (wrS_wf hwf _ _ _) hq hc hU (by rw [← wrF_devF hwf]; exact hD) hFr
  · have hf' : fitsZ off size = false := by simpa using hf
    have HF := Lib.hid (show BusAt w p q (wrL L slot off size v) from by simp only [wrL, hf']; exact h)
    clear h hf
    go_enter Try.func10, Try.ntmps10
    go_wp2_with fail
    refine (pci_fits _ _ h0 h1 _).mono ?_; rintro e w' ⟨rfl, rfl⟩; rw [hf']
    go_wp2
    go_ret
    exact ⟨by rw [hf']; rfl, HF.out, Upd.refl _ _⟩

theorem bus_Slots {w : World} {p q : Nat} {L : List Sl} (h : BusAt w p q L) :
    Calls Try.prog 13 #[.pointer (some ⟨p, 0, none⟩)] w fun e w' => e = .returned (.int .i64 (L.length : Nat)) ∧ w = w' := by
  obtain ⟨ad, cap, hb⟩ := h.head
  exact pci_slots p _ _ _ w hb
def kindL (L : List Sl) (slot : Int) : Int := match at_ L slot with
  | some s => s.kind
  | none => 0
theorem bus_Kind {w : World} {p q : Nat} {L : List Sl} (h : BusAt w p q L) (slot : Int) :
    Calls Try.prog 14 #[.pointer (some ⟨p, 0, none⟩), .int .i64 slot] w fun e w' => e = .returned (.int .i64 (kindL L slot)) ∧ w = w' := by
  rcases hat : at_ L slot with _ | s
  · obtain ⟨ad, cap, hb⟩ := h.head
    have e : kindL L slot = 0 := by simp [kindL, hat]
    rw [e]
    exact pci_kind_no p ad _ cap slot w hb (at_none hat)
  · obtain ⟨hs0, hs1, hsi⟩ := at_some hat
    obtain ⟨hwf, cap, cur, hb, hq, hD⟩ := h.slot hsi
    have e : kindL L slot = s.kind := by simp [kindL, hat]
    rw [e]
    exact pci_kind p q _ cap slot _ w hb hs0 hs1 (by rw [hq.cell]; exact hD.1)
theorem cmd_bit (s : Sl) (h : s.wf) : (bits .and .u8 (s.cmd % 256) 2 != 0) = (s.cmd == 2 || s.cmd == 6) := by
  obtain ⟨_, h, _⟩ := h
  obtain ⟨kd, cmd, base, line⟩ := s
  simp only at h ⊢
  rcases h with rfl | rfl | rfl | rfl <;> decide
theorem bus_Bar {w : World} {p q : Nat} {L : List Sl} (h : BusAt w p q L) (slot : Int) :
    Calls Try.prog 21 #[.pointer (some ⟨p, 0, none⟩), .int .i64 slot] w fun e w' => e = .returned (.tuple #[.int .u64 (barL L slot).1, .bool (barL L slot).2]) ∧ w = w' := by
  rcases hat : at_ L slot with _ | s
  · have hn := at_none hat
    obtain ⟨ad, cap, hb⟩ := h.head
    have HF := Lib.hid (show barL L slot = (0, false) from by simp [barL, hat])
    clear h hat
    go_enter Try.func21, Try.ntmps21
    go_wp2_with fail
    refine (pci_there _ _ _ _ _ _ hb).mono ?_; rintro e w' ⟨rfl, rfl⟩; rw [hn]
    go_wp2
    go_ret2
    rw [HF.out]; exact ⟨rfl, rfl⟩
  · obtain ⟨hs0, hs1, hsi⟩ := at_some hat
    obtain ⟨hwf, cap, cur, hb, hq, hD⟩ := h.slot hsi
    have HF := Lib.hid (show barL L slot = barS s from by simp [barL, hat])
    have hn : decide (0 ≤ slot ∧ slot < (L.length : Int)) = true := by simp; omega
    have hbase : num (devF s) 16 4 = s.base := by
      have h0 := devF_base s 0 (by omega); have h1 := devF_base s 1 (by omega); have h2 := devF_base s 2 (by omega); have h3 := devF_base s 3 (by omega)
      rw [num_bytes 4 s.base 16 _ (fun k hk => devF_base s k hk)]
      obtain ⟨_, _, ⟨x, y, _⟩, _⟩ := hwf
      rw [show (256 : Int) ^ 4 = 4294967296 from rfl]; omega
    have hnum := pci_number q (slot.toNat * 257) (devF s) 16 4 (by omega) (by omega) (by omega) (by omega) w (devF_bd s) (fun i hi => by rw [hq.cell]; exact hD.2 i hi)
    rw [show (16 : Int).toNat = 16 from rfl, show (4 : Int).toNat = 4 from rfl, hbase] at hnum
    have HN := Lib.hid hnum
    have HC := Lib.hid (cmd_bit s hwf)
    obtain ⟨k, rfl⟩ := Int.eq_ofNat_of_zero_le hs0
    simp only [Int.toNat_natCast] at HN hD
    have hcell : w.cell? ⟨q, k * 257 + 1 + 4, none⟩ = some (.int .u8 (s.cmd % 256)) := by rw [hq.cell, hD.2 4 (by omega), devF_cmd]
    have hwb := hwf.2.2.1
    clear h hat hnum hq hD hsi hwf hbase
    go_enter Try.func21, Try.ntmps21
    go_wp2_with fail
    refine (pci_there _ _ _ _ _ _ hb).mono ?_; rintro e w' ⟨rfl, rfl⟩; rw [hn]
    go_wp2_with fail
    refine (HN.out).mono ?_; rintro e w' ⟨rfl, rfl⟩
    go_wp2
    · rename_i hx
      go_ret2
      refine ⟨?_, rfl⟩
      have hc := HC.out
      rw [hx] at hc
      rw [HF.out]; simp [barS, ← hc]
    · go_ret2
      refine ⟨?_, rfl⟩
      rw [HF.out, barS, ← HC.out]; rfl

/-- an address is a slot's -/
def hit (addr : Int) (s : Sl) : Bool := (barS s).2 && (decide (s.base ≤ addr) && decide (addr - s.base < 4096))
def findL (L : List Sl) (addr : Int) : Int × Int × Bool := match L.findIdx? (hit addr) with
  | some i => (i, addr - (barL L i).1, true)
  | none => (0, 0, false)
theorem at_lt {L : List Sl} {k : Nat} {s : Sl} (h : L[k]? = some s) : at_ L k = some s := by
  have := (List.getElem?_eq_some_iff.1 h).1
  unfold at_; rw [if_pos (by omega)]; simpa using h
theorem find_at {L : List Sl} {addr : Int} {k : Nat} {s : Sl} (h : ∀ j s, j < k → L[j]? = some s → hit addr s = false) (hs : L[k]? = some s) (hh : hit addr s = true) : findL L addr = ((k : Int), addr - (barL L k).1, true) := by
  obtain ⟨hk, hsk⟩ := List.getElem?_eq_some_iff.1 hs
  have : L.findIdx? (hit addr) = some k := by
    rw [List.findIdx?_eq_some_iff_getElem]
    refine ⟨hk, by rw [hsk]; exact hh, fun j hj => ?_⟩
    rw [h j _ hj (List.getElem?_eq_getElem (by omega))]; simp
  simp [findL, this]
theorem find_none {L : List Sl} {addr : Int} (h : ∀ j s, j < L.length → L[j]? = some s → hit addr s = false) : findL L addr = (0, 0, false) := by
  have : L.findIdx? (hit addr) = none := by
    rw [List.findIdx?_eq_none_iff]
    intro x hx
    obtain ⟨j, hj, rfl⟩ := List.getElem_of_mem hx
    exact h j _ hj (List.getElem?_eq_getElem hj)
  simp [findL, this]
theorem find_next {L : List Sl} {addr : Int} {k : Nat} {s : Sl} (h : ∀ j s, j < k → L[j]? = some s → hit addr s = false) (hs : L[k]? = some s) (hh : hit addr s = false) : ∀ j s, j < k + 1 → L[j]? = some s → hit addr s = false := by
  intro j t hj ht
  by_cases e : j = k
  · subst e; rw [hs] at ht; cases ht; exact hh
  · exact h j t (by omega) ht
theorem bus_Find {w : World} {p q : Nat} {L : List Sl} (h : BusAt w p q L) (addr : Int) (h0 : 0 ≤ addr) (h1 : addr < 18446744073709551616) (hL : L.length ≤ 8) :
    Calls Try.prog 15 #[.pointer (some ⟨p, 0, none⟩), .int .u64 addr] w fun e w' => e = .returned (.tuple #[.int .i64 (findL L addr).1, .int .u64 (findL L addr).2.1, .bool (findL L addr).2.2]) ∧ w = w' := by
  obtain ⟨ad, cap, hb⟩ := h.head
  have HB := Lib.hid h
  clear h
  go_enter Try.func15, Try.ntmps15
  go_wp2
  go_loop [15] (fun i => ∃ k : Nat, k ≤ L.length ∧ i = .int .i64 (k : Int) ∧ Hid (∀ j s, j < k → L[j]? = some s → hit addr s = false)) (fun i => L.length - (intOf i).toNat)
  case atStart => exact ⟨0, by omega, rfl, fun j s hj => by omega⟩
  case round =>
    obtain ⟨k, hk, rfl, HV⟩ := hrel
    by_cases hlt : k < L.length
    · obtain ⟨s, hs⟩ : ∃ s, L[k]? = some s := ⟨L[k], List.getElem?_eq_getElem hlt⟩
      have HS := Lib.hid hs
      have hwf := (HB.out.slot hs).1.2.2.1
      have hbar : barL L k = barS s := by rw [barL, at_lt hs]
      have HBar := Lib.hid hbar
      have hcall := bus_Bar HB.out (k : Int)
      rw [hbar] at hcall
      have HC := Lib.hid hcall
      clear hs hcall hbar
      obtain ⟨hw0, hw1, _⟩ := hwf
      have e1 : (barS s).1 = s.base := rfl
      rw [e1] at HC
      clear e1
      by_cases hon : (barS s).2 = true
      · by_cases hge : s.base ≤ addr
        · by_cases hin : addr - s.base < 4096
          · go_wp2_with fail
            refine (HC.out).mono ?_; rintro e w' ⟨rfl, rfl⟩; rw [hon]
            go_wp2
            go_ret3
            refine ⟨?_, rfl⟩
            rw [find_at HV.out HS.out (by simp [hit, hon, hge, hin]), HBar.out]; rfl
          · have hno : hit addr s = false := by simp [hit, hin]
            have HX := Lib.hid (find_next HV.out HS.out hno)
            clear hno
            go_wp2_with fail
            refine (HC.out).mono ?_; rintro e w' ⟨rfl, rfl⟩; rw [hon]
            go_wp2
            go_round
            case rel => exact ⟨k + 1, by omega, by go_num, HX.out⟩
            case measure => simp [intOf]; omega
        · have hno : hit addr s = false := by simp [hit, hge]
          have HX := Lib.hid (find_next HV.out HS.out hno)
          clear hno
          go_wp2_with fail
          refine (HC.out).mono ?_; rintro e w' ⟨rfl, rfl⟩; rw [hon]
          go_wp2
          go_round
          case rel => exact ⟨k + 1, by omega, by go_num, HX.out⟩
          case measure => simp [intOf]; omega
      · have hon' : (barS s).2 = false := by simpa using hon
        have hno : hit addr s = false := by simp [hit, hon']
        have HX := Lib.hid (find_next HV.out HS.out hno)
        clear hno hon
        go_wp2_with fail
        refine (HC.out).mono ?_; rintro e w' ⟨rfl, rfl⟩; rw [hon']
        go_wp2
        go_round
        case rel => exact ⟨k + 1, by omega, by go_num, HX.out⟩
        case measure => simp [intOf]; omega
    · obtain rfl : k = L.length := by omega
      have HX := Lib.hid (find_none HV.out)
      go_wp2
      go_ret3
      rw [HX.out]
      exact ⟨rfl, rfl⟩
end Go.Proofs.Ytibhialnaibkjaa
