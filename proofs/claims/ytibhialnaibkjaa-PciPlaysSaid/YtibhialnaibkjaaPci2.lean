import Derived.Test.YtibhialnaibkjaaPci1
namespace Go.Proofs.Ytibhialnaibkjaa
set_option linter.unusedVariables false
open Go.RowKit
set_option maxRecDepth 100000

/-- a device's cells, from o on in a row of cells -/
def DevIn (c : Array Value) (o : Nat) (k : Int) (f : Nat → Int) : Prop := c[o]? = some (.int .i64 k) ∧ ∀ i, i < 256 → c[o + 1 + i]? = some (.int .u8 (f i))

theorem pci_lay (p o : Nat) (c : Array Value) (t : TypeId) (kd : Int) (f : Nat → Int) (off size v : Int) (h1 : 0 ≤ size) (h2 : size ≤ 4) (h0 : 0 ≤ off) (h3 : off + size ≤ 256) (hv : 0 ≤ v) (hv1 : v < 18446744073709551616) (w : World)
   (hB : Blk w p t c) (hD : DevIn c o kd f) :
    Calls Try.prog 23 #[.pointer (some ⟨p, o, none⟩), .int .i64 off, .int .i64 size, .int .u64 v] w fun e w' => e = .returned (.tuple #[]) ∧
      ∃ c', Blk w' p t c' ∧ c'.size = c.size ∧ DevIn c' o kd (put f off.toNat size.toNat v) ∧ (∀ j, j < o ∨ o + 257 ≤ j → c'[j]? = c[j]?) ∧ Upd (· = p) w w' ∧ w'.heap.size = w.heap.size := by
  obtain ⟨j, rfl⟩ := Int.eq_ofNat_of_zero_le h0
  obtain ⟨s, rfl⟩ := Int.eq_ofNat_of_zero_le h1
  simp only [Int.toNat_natCast]
  have HB := Lib.hid hB
  have HD := Lib.hid hD
  clear hB hD
  go_enter Try.func23, Try.ntmps23
  go_wp2
  go_loopw [10] (fun i wr => ∃ (k : Nat), k ≤ s ∧ i = .int .i64 (k : Int) ∧ Hid (∃ c', Blk wr p t c' ∧ c'.size = c.size ∧ DevIn c' o kd (put f j k v) ∧ (∀ j, j < o ∨ o + 257 ≤ j → c'[j]? = c[j]?) ∧ Upd (· = p) w wr ∧ wr.heap.size = w.heap.size)) (fun i _ => s - (intOf i).toNat)
  case atStart => exact ⟨0, by omega, rfl, c, HB.out, rfl, (by have := HD.out; rwa [put_zero]), fun _ _ => rfl, Upd.refl _ _, rfl⟩
  case round =>
    obtain ⟨k, hk, rfl, HR⟩ := hrel
    obtain ⟨c1, hB1, hs1, hD1, hF1, hU1, hz1⟩ := HR.out
    by_cases hlt : k < s
    · have hc := (hB1.cell (o + 1 + (j + k))).trans (hD1.2 (j + k) (by omega))
      have hz := hB1.frozen (o + 1 + (j + k))
      have HH := Lib.hid (And.intro hB1 (And.intro hs1 (And.intro hD1 (And.intro hF1 (And.intro hU1 hz1)))))
      clear hB1 hs1 hD1 hF1 hU1 hz1 HR
      go_wp2
      go_region
      go_wp2
      obtain ⟨hB1, hs1, hD1, hF1, hU1, hz1⟩ := HH.out
      refine ⟨⟨k + 1, by omega, by go_num, _, (hB1.set_ (o + 1 + (j + k)) _).drew, by simpa using hs1, ?_, ?_, (hU1.setCell (p := ⟨p, _, none⟩) (.inl rfl) _).drew, by simpa [World.setCell] using hz1⟩, by simp [intOf]; omega⟩
      · have hlen : o + 1 + (j + k) < c1.size := lt_of_cell? (hD1.2 (j + k) (by omega))
        refine ⟨by rw [getElem?_set_ne _ (by omega)]; exact hD1.1, fun i hi => ?_⟩
        rw [put_succ, shr_byte]
        by_cases e : i = j + k
        · subst e; rw [if_pos rfl, getElem?_set_eq _ hlen]
        · rw [if_neg e, getElem?_set_ne _ (by omega)]; exact hD1.2 i hi
      · intro i hi
        rw [getElem?_set_ne _ (by omega)]; exact hF1 i hi
    · clear hB1 hs1 hD1 hF1 hU1 hz1
      obtain rfl : k = s := by omega
      go_wp2
      go_end0
      exact ⟨rfl, HR.out⟩

theorem pci_slots (p : Nat) (len cap : Nat) (ad : Option Addr) (w : World) (hb : w.cell? ⟨p, 0, none⟩ = some (.slice ad len cap)) :
    Calls Try.prog 13 #[.pointer (some ⟨p, 0, none⟩)] w fun e w' => e = .returned (.int .i64 len) ∧ w = w' := by
  go_enter Try.func13, Try.ntmps13
  go_wp2
  go_ret
  exact ⟨rfl, rfl⟩

theorem pci_kind (p q : Nat) (len cap : Nat) (slot kd : Int) (w : World) (hb : w.cell? ⟨p, 0, none⟩ = some (.slice (some ⟨q, 0, none⟩) len cap)) (h0 : 0 ≤ slot) (h1 : slot < len)
    (hk : w.cell? ⟨q, slot.toNat * 257, none⟩ = some (.int .i64 kd)) :
    Calls Try.prog 14 #[.pointer (some ⟨p, 0, none⟩), .int .i64 slot] w fun e w' => e = .returned (.int .i64 kd) ∧ w = w' := by
  obtain ⟨s, rfl⟩ := Int.eq_ofNat_of_zero_le h0
  simp only [Int.toNat_natCast] at hk
  go_enter Try.func14, Try.ntmps14
  go_wp2_with (go_at_call 25; refine (pci_there _ _ _ _ _ _ hb).mono ?_; rintro e w' ⟨rfl, rfl⟩)
  go_ret
  exact ⟨rfl, rfl⟩
theorem pci_kind_no (p : Nat) (ad : Option Addr) (len cap : Nat) (slot : Int) (w : World) (hb : w.cell? ⟨p, 0, none⟩ = some (.slice ad len cap)) (h1 : decide (0 ≤ slot ∧ slot < len) = false) :
    Calls Try.prog 14 #[.pointer (some ⟨p, 0, none⟩), .int .i64 slot] w fun e w' => e = .returned (.int .i64 0) ∧ w = w' := by
  go_enter Try.func14, Try.ntmps14
  go_wp2_with fail
  refine (pci_there _ _ _ _ _ _ hb).mono ?_; rintro e w' ⟨rfl, rfl⟩
  rw [h1]
  go_wp2
  go_ret
  exact ⟨rfl, rfl⟩

/-- a device that is being laid, in block b of its own -/
def LayAt (w0 w : World) (b : Nat) (kd : Int) (f : Nat → Int) : Prop := ∃ c, Blk w b 60 c ∧ c.size = 257 ∧ DevIn c 0 kd f ∧ Upd (· = b) w0 w ∧ w.heap.size = w0.heap.size
theorem lay_step {w0 w : World} {b : Nat} {kd : Int} {f : Nat → Int} (h : LayAt w0 w b kd f) (off size v : Int) (h1 : 0 ≤ size) (h2 : size ≤ 4) (h0 : 0 ≤ off) (h3 : off + size ≤ 256) (hv : 0 ≤ v) (hv1 : v < 18446744073709551616) :
    Calls Try.prog 23 #[.pointer (some ⟨b, 0, none⟩), .int .i64 off, .int .i64 size, .int .u64 v] w fun e w' => e = .returned (.tuple #[]) ∧ LayAt w0 w' b kd (put f off.toNat size.toNat v) := by
  obtain ⟨c, hB, hs, hD, hU, hz⟩ := h
  refine (pci_lay b 0 c _ kd f off size v h1 h2 h0 h3 hv hv1 w hB hD).mono ?_
  rintro e w' ⟨rfl, c', hB', hs', hD', _, hU', hz'⟩
  exact ⟨rfl, c', hB', hs'.trans hs, hD', hU.trans hU', hz'.trans hz⟩

def devCells (k : Int) : Array Value := (Value.int .i64 k :: List.replicate 256 (.int .u8 0)).toArray
theorem dev_build (k : Int) (w : World) : (Instr.build 60 #[(0, .int .i64 k)]).run Try.prog w = .ok (.agg (devCells k)) w := by kernel_rfl
theorem dev_alloc (w : World) : (Instr.alloc 60 true (.tuple #[])).run Try.prog w = .ok (.pointer (some ⟨w.heap.size, 0, none⟩)) (w.alloc (.cells (devCells 0) 60)) := by kernel_rfl
theorem size_devCells (k : Int) : (devCells k).size = 257 := by simp [devCells]
theorem devIn_devCells (k : Int) : DevIn (devCells k) 0 k zf := by
  refine ⟨rfl, fun i hi => ?_⟩
  rw [show 0 + 1 + i = i + 1 from by omega]
  simp only [devCells, List.getElem?_toArray, List.getElem?_cons_succ, List.getElem?_replicate, if_pos hi, zf]
theorem one_devCells (k : Int) : (devCells k).all (·.oneCell') = true := by
  simp only [devCells, List.all_toArray, List.all_cons, List.all_replicate]; rfl

theorem dev_load {w : World} {b : Nat} {c : Array Value} (h : Blk w b 60 c ∧ c.size = 257) : (Instr.loadAt 60 (.pointer (some ⟨b, 0, none⟩))).run Try.prog w = .ok (.agg c) w := by
  unfold Instr.loadAt
  rw [Sem.run_bind]
  show Sem.run Try.prog (loadVar 60 ⟨b, 0, none⟩) w = _
  exact run_loadVar_row w b _ 60 c (0, 0) _ h.1 Try.underlying60 rfl (by rw [h.2]; kernel_rfl)
theorem info_dev : (Try.prog.info? 60).map (fun i => (i.zero, i.size, i.bytes)) = some (some (.agg (devCells 0)), 257, 264) := by kernel_rfl
theorem dev_slice {w : World} {c : Array Value} (h : c.size = 257) : (Instr.buildSlice 55 1 #[(0, .agg c)]).run Try.prog w = .ok (.slice (some ⟨w.heap.size, 0, none⟩) 1 1) (w.alloc (.cells c 60)) := by
  obtain ⟨ie, hi, hz, hs, hb⟩ := info_parts info_dev
  exact run_buildSlice1 w _ _ ie _ Try.underlying55 hi hz (by omega) (by omega) c (by omega)

/-- the slots of a bus as they are being appended -/
def Laid (w : World) (B : Nat) (v : Value) (ks : List Int) : Prop :=
  ∃ xs, w.ownsRow B 60 257 v ks.length xs ∧ ∀ i k, ks[i]? = some k → xs[i * 257]? = some (.int .i64 k) ∧ ∀ j, j < 256 → xs[i * 257 + 1 + j]? = some (.int .u8 (devF (fresh k) j))

/-- a bus, at block p; its slots in block q -/
def BusAt (w : World) (p q : Nat) (L : List Sl) : Prop :=
  ∃ v, Blk w p 57 #[v] ∧ (∀ s ∈ L, s.wf) ∧ ((L = [] ∧ v = .slice none 0 0) ∨
    ∃ cap cur, v = .slice (some ⟨q, 0, none⟩) L.length cap ∧ Blk w q 60 cur ∧ ∀ i s, L[i]? = some s → DevIn cur (i * 257) s.kind (devF s))

def okK (ks : List Int) : Bool := decide (ks.length ≤ 8) && ks.all fun k => decide (0 ≤ k) && decide (k ≤ 255)
def NewPost (w : World) (ks : List Int) (e : Ending) (w' : World) : Prop :=
  Upd (fun _ => False) w w' ∧ ((okK ks = true ∧ ∃ p q, e = .returned (.tuple #[.pointer (some ⟨p, 0, none⟩), .int .i64 0]) ∧ w.heap.size ≤ p ∧ (w.heap.size ≤ q ∧ q < w'.heap.size) ∧ BusAt w' p q (ks.map fresh)) ∨
    (okK ks = false ∧ e = .returned (.tuple #[.pointer none, .int .i64 1])))

theorem laid_snoc {ks : List Int} {k : Nat} {kd : Int} {xs : List Value} {c : Array Value} (hk : ks[k]? = some kd) (hl : xs.length = (ks.take k).length * 257)
    (hx : ∀ i k', (ks.take k)[i]? = some k' → xs[i * 257]? = some (.int .i64 k') ∧ ∀ j, j < 256 → xs[i * 257 + 1 + j]? = some (.int .u8 (devF (fresh k') j)))
    (hD : DevIn c 0 kd (devF (fresh kd))) : ∀ i k', (ks.take (k + 1))[i]? = some k' → (xs ++ c.toList)[i * 257]? = some (.int .i64 k') ∧ ∀ j, j < 256 → (xs ++ c.toList)[i * 257 + 1 + j]? = some (.int .u8 (devF (fresh k') j)) := by
  have hkl : k < ks.length := (List.getElem?_eq_some_iff.1 hk).1
  have htl : (ks.take k).length = k := by simp; omega
  rw [htl] at hl
  intro i k' hi
  rcases Nat.lt_or_ge i k with h | h
  · have hi' : (ks.take k)[i]? = some k' := by rw [List.getElem?_take, if_pos h]; rw [List.getElem?_take, if_pos (by omega)] at hi; exact hi
    obtain ⟨h1, h2⟩ := hx i k' hi'
    refine ⟨by rw [List.getElem?_append_left (by omega)]; exact h1, fun j hj => by rw [List.getElem?_append_left (by omega)]; exact h2 j hj⟩
  · rw [List.getElem?_take] at hi
    split at hi
    · obtain rfl : i = k := by omega
      rw [hk] at hi; cases hi
      refine ⟨?_, fun j hj => ?_⟩
      · rw [List.getElem?_append_right (by omega), hl, Nat.sub_self, Array.getElem?_toList]; exact hD.1
      · rw [List.getElem?_append_right (by omega), hl, show i * 257 + 1 + j - i * 257 = 0 + 1 + j from by omega, Array.getElem?_toList]; exact hD.2 j hj
    · cases hi
theorem one_dev {c : Array Value} {kd : Int} {f : Nat → Int} (hD : DevIn c 0 kd f) (hs : c.size = 257) : ∀ u ∈ c.toList, u.oneCell' = true := by
  intro u hu
  obtain ⟨i, hi, rfl⟩ := List.getElem_of_mem hu
  have hi' : i < 257 := by simpa [hs] using hi
  have e : c.toList[i]? = some c.toList[i] := List.getElem?_eq_getElem hi
  rw [Array.getElem?_toList] at e
  rcases i with _ | i
  · rw [hD.1] at e; injection e with e; rw [← e]; rfl
  · have := hD.2 i (by omega); rw [show 0 + 1 + i = i + 1 from by omega] at this
    rw [this] at e; injection e with e; rw [← e]; rfl
theorem cells_new (w : World) (c : Array Value) (t : TypeId) : ∀ j u, c.toList[j]? = some u → (w.alloc (.cells c t)).cell? ((⟨w.heap.size, 0, none⟩ : Addr).add j) = some u := by
  intro j u h
  rw [Addr.add_lit, Nat.zero_add, (Blk.new w t c).cell j, ← Array.getElem?_toList]; exact h

theorem okK_all {ks : List Int} (h : okK ks = true) : ks.length ≤ 8 ∧ ∀ k ∈ ks, 0 ≤ k ∧ k ≤ 255 := by
  simpa [okK] using h
theorem okK_snoc {ks : List Int} {k : Nat} {kd : Int} (hk : ks[k]? = some kd) (hn : ks.length ≤ 8) (h : okK (ks.take k) = true) (h0 : 0 ≤ kd) (h1 : kd ≤ 255) : okK (ks.take (k + 1)) = true := by
  have hk' := List.getElem?_eq_some_iff.1 hk
  obtain ⟨_, ha⟩ := okK_all h
  have : (ks.take (k + 1)) = ks.take k ++ [kd] := by rw [List.take_succ_eq_append_getElem hk'.1, hk'.2]
  simp only [okK, Bool.and_eq_true, decide_eq_true_eq, List.all_eq_true]
  refine ⟨by simp; omega, fun x hx => ?_⟩
  rw [this, List.mem_append] at hx
  rcases hx with hx | hx
  · exact ha x hx
  · simp at hx; subst hx; exact ⟨h0, h1⟩
theorem okK_bad {ks : List Int} {k : Nat} {kd : Int} (hk : ks[k]? = some kd) (h : ¬ (0 ≤ kd ∧ kd ≤ 255)) : okK ks = false := by
  rw [← Bool.not_eq_true]; intro h1
  exact h ((okK_all h1).2 kd (List.mem_of_getElem? hk))
theorem bus_of_laid {w : World} {p B : Nat} {v : Value} {ks : List Int} (hB : Blk w p 57 #[v]) (hL : Laid w B v ks) (hO : okK ks = true) (hp : B ≤ p) : ∃ q, B ≤ q ∧ q < w.heap.size ∧ BusAt w p q (ks.map fresh) := by
  have hwf : ∀ s ∈ ks.map fresh, s.wf := by
    intro s hs
    obtain ⟨k, hk, rfl⟩ := List.mem_map.1 hs
    exact fresh_wf ((okK_all hO).2 k hk)
  obtain ⟨xs, hown, hx⟩ := hL
  rcases hown.2 with ⟨rfl, h0⟩ | ⟨g, cap, cur, rfl, hg, hb, hn, _, hs, ht⟩
  · have : ks = [] := List.length_eq_zero_iff.1 h0
    subst this
    exact ⟨p, hp, hB.lt, _, hB, hwf, .inl ⟨rfl, rfl⟩⟩
  · refine ⟨g, hg, Blk.lt hb, _, hB, hwf, .inr ⟨cap, cur, by simp, hb, ?_⟩⟩
    intro i s hi
    rw [List.getElem?_map] at hi
    obtain ⟨k, hk, rfl⟩ := Option.map_eq_some_iff.1 hi
    have hil : i < ks.length := (List.getElem?_eq_some_iff.1 hk).1
    obtain ⟨h1, h2⟩ := hx i k hk
    have conv : ∀ j, j < ks.length * 257 → cur[j]? = xs[j]? := by
      intro j hj
      rw [← ht, List.getElem?_take, if_pos hj, Array.getElem?_toList]
    refine ⟨by rw [conv _ (by omega)]; exact h1, fun j hj => by rw [conv _ (by omega)]; exact h2 j hj⟩

theorem pci_New (A : Option Addr) (cap : Nat) (ks : List Int) (w : World) (hr : Reads w w.heap.size 1 A ks.length (ks.map (.int .i64))) :
    Calls Try.prog 8 #[.slice A ks.length cap] w fun e w' => NewPost w ks e w' := by
  by_cases hn : ks.length ≤ 8
  · have hn' : (ks.length : Int) ≤ 8 := by omega
    have HR := Lib.hid hr
    clear hr
    go_enter Try.func8, Try.ntmps8
    go_wp2
    go_loopw [15] (fun i wr => ∃ (k : Nat), k ≤ ks.length ∧ i = .int .i64 (k : Int) ∧ Hid (∃ v, Blk wr w.heap.size 57 #[v] ∧ Laid wr w.heap.size v (ks.take k) ∧ Upd (fun _ => False) w wr) ∧ Hid (okK (ks.take k) = true)) (fun i _ => ks.length - (intOf i).toNat)
    case atStart => exact ⟨0, by omega, rfl, ⟨_, Blk.new _ _ _, ⟨[], World.ownsRow_nil _ _ _ _, fun i k h => by simp at h⟩, (Upd.refl _ _).alloc _⟩, rfl⟩
    case round =>
      obtain ⟨k, hk, rfl, HV, HO⟩ := hrel
      by_cases hlt : k < ks.length
      · obtain ⟨v, hB, ⟨xs, hown, hx⟩, hU⟩ := HV.out
        obtain ⟨ad, u, rfl, hadb, hu, hc⟩ := HR.out.at_ hlt
        obtain ⟨kd, hkd⟩ : ∃ kd, ks[k]? = some kd := ⟨ks[k], List.getElem?_eq_getElem hlt⟩
        have hck : wr.cell? (ad.add k) = some (.int .i64 kd) := by
          rw [hU.cell (by rw [block_of_add]; exact hadb) (fun h => h), hc]
          rw [List.getElem?_map, hkd] at hu; exact hu.symm
        have HK := Lib.hid hkd
        have HF := Lib.hid (And.intro hB (And.intro hown (And.intro hx hU)))
        clear hB hown hx hU hu hc hkd
        by_cases hok : 0 ≤ kd ∧ kd ≤ 255
        · obtain ⟨hk0, hk1⟩ := hok
          go_wp2_with (first | ((with_reducible show wpList _ _ _ ((⟨some 26, _, _, _, _, _⟩ : Oper) :: _) _ _); refine wpList_build1 rfl _ _ _ rfl (.int .i64 kd) rfl (dev_build kd _) ?_) | ((with_reducible show wpList _ _ _ ((⟨some 7, _, _, _, _, _⟩ : Oper) :: _) _ _); refine wpList_alloc rfl _ rfl (dev_alloc _) ?_) | ((with_reducible show wpList _ _ _ ((⟨none, _, _, _, _, _⟩ : Oper) :: _) _ _); refine wpList_store_row rfl _ _ _ rfl wr.heap.size (devCells kd) rfl rfl _ _ (Blk.new _ _ _) (by kernel_rfl) rfl (one_devCells _) ?_))
          have L0 : LayAt ((wr.alloc (Obj.cells (devCells 0) 60)).setRow wr.heap.size (devCells kd)) ((wr.alloc (Obj.cells (devCells 0) 60)).setRow wr.heap.size (devCells kd)) wr.heap.size kd zf :=
            ⟨_, (Blk.new _ _ _).setRow _, size_devCells _, devIn_devCells _, Upd.refl _ _, rfl⟩
          refine (lay_step L0 _ _ _ (by omega) (by omega) (by omega) (by omega) (by omega) (by omega)).mono ?_; clear L0; rintro e w1 ⟨rfl, L1⟩
          go_wp2_with fail
          refine (lay_step L1 _ _ _ (by omega) (by omega) (by omega) (by omega) (by omega) (by omega)).mono ?_; clear L1; rintro e w2 ⟨rfl, L1⟩
          go_wp2_with fail
          refine (lay_step L1 _ _ _ (by omega) (by omega) (by omega) (by omega) (by omega) (by omega)).mono ?_; clear L1; rintro e w3 ⟨rfl, L1⟩
          go_wp2_with fail
          refine (lay_step L1 _ _ _ (by omega) (by omega) (by omega) (by omega) (by omega) (by omega)).mono ?_; clear L1; rintro e w4 ⟨rfl, L1⟩
          go_wp2_with fail
          refine (lay_step L1 _ _ _ (by omega) (by omega) (by omega) (by omega) (by omega) (by omega)).mono ?_; clear L1; rintro e w5 ⟨rfl, L1⟩
          go_wp2_with fail
          refine (lay_step L1 _ _ _ (by omega) (by omega) (by omega) (by omega) (by omega) (by omega)).mono ?_; clear L1; rintro e w6 ⟨rfl, L1⟩
          go_wp2_with fail
          refine (lay_step L1 _ _ _ (by omega) (by omega) (by omega) (by omega) (by omega) (by omega)).mono ?_; clear L1; rintro e w7 ⟨rfl, L1⟩
          go_wp2_with fail
          refine (lay_step L1 _ _ _ (by omega) (by omega) (by omega) (by omega) (by omega) (by omega)).mono ?_; clear L1; rintro e w8 ⟨rfl, L1⟩
          go_wp2_with fail
          refine (lay_step L1 _ _ _ (by omega) (by omega) (by omega) (by omega) (by omega) (by omega)).mono ?_; clear L1; rintro e w9 ⟨rfl, L1⟩
          go_wp2_with fail
          refine (lay_step L1 _ _ _ (by omega) (by omega) (by omega) (by omega) (by omega) (by omega)).mono ?_; clear L1; rintro e w10 ⟨rfl, L1⟩
          have L2 : LayAt ((wr.alloc (Obj.cells (devCells 0) 60)).setRow wr.heap.size (devCells kd)) w10 wr.heap.size kd (devF (fresh kd)) := by rw [devF_fresh]; exact L1
          clear L1
          obtain ⟨c, hBc, hcs, hDc, hUc, hzc⟩ := L2
          obtain ⟨hB, hown, hx, hU⟩ := HF.out
          have hzc' : w10.heap.size = wr.heap.size + 1 := by rw [hzc]; simp [World.setRow]
          have hU' : Upd (· = wr.heap.size) wr w10 := ((((Upd.refl (· = wr.heap.size) wr).alloc _).setRow (.inl rfl) _).trans hUc)
          have hpw : w.heap.size < wr.heap.size := hB.lt
          have hBv : Blk w10 w.heap.size 57 #[v] := hB.upd hU' (by omega)
          have hown' : w10.ownsRow w.heap.size 60 257 v (ks.take k).length xs := hown.kept hU'.toGrown (by
            rcases hv : v.ownBlock with _ | g
            · exact .inl rfl
            · right; have := hown.lt g hv; simp; omega)
          have hBv' := hBv
          have hB0 : w.heap.size < wr.heap.size := hpw
          have hvb : ∀ g', v.ownBlock = some g' → g' < wr.heap.size := fun g' e => (hown.lt g' e).2
          have HG := Lib.hid (And.intro hDc (And.intro hzc' (And.intro hU' (And.intro hBv (And.intro hown' (And.intro hx hU))))))
          have hload : Blk w10.drew wr.heap.size 60 c ∧ c.size = 257 := ⟨hBc, hcs⟩
          clear hBc hDc hUc hzc hB hown hx hU hzc' hU' hpw hBv hown'
          go_wp2
          obtain ⟨ie, hie, hiz, his, hib⟩ := info_parts info_dev
          refine wpE_region (S := fun W => Blk W w.heap.size 57 #[v] ∧ Blk W wr.heap.size 60 c) (s := 10) (by kernel_rfl) ?_
          have hS : (fun W => Blk W w.heap.size 57 #[v] ∧ Blk W wr.heap.size 60 c) _ := ⟨hBv'.drew, hload.1⟩
          refine wpE_take (i := 0) (oi := { dst := some 42, op := Go.Op.move (Go.Operand.tmp 4), type := 23, pos := "pci.go:43", after := #[], guard := none }) (v := ?_) rfl (by kernel_rfl) (fun _ _ _ h => h) (Or.inl ⟨by rfl, fun W hW => ?_⟩) hS ?_
          rotate_left
          · obtain ⟨hw1, hw2⟩ := hW; have hw3 : W.cell? ⟨w.heap.size, 0, none⟩ = some v := hw1.cell 0; go_simp; (try go_bits); (try rw [if_pos (by omega)]); (try with_reducible rfl)
          (try simp only [Act.put, List.setIfInBounds_toArray, List.set_cons_succ, List.set_cons_zero])
          refine wpE_take (i := 1) (oi := { dst := some 43, op := Go.Op.move (Go.Operand.tmp 4), type := 23, pos := "pci.go:43", after := #[], guard := none }) (v := ?_) rfl (by kernel_rfl) (fun _ _ _ h => h) (Or.inl ⟨by rfl, fun W hW => ?_⟩) hS ?_
          rotate_left
          · obtain ⟨hw1, hw2⟩ := hW; have hw3 : W.cell? ⟨w.heap.size, 0, none⟩ = some v := hw1.cell 0; go_simp; (try go_bits); (try rw [if_pos (by omega)]); (try with_reducible rfl)
          (try simp only [Act.put, List.setIfInBounds_toArray, List.set_cons_succ, List.set_cons_zero])
          refine wpE_take (i := 2) (oi := { dst := some 44, op := Go.Op.nilCheck (Go.Operand.tmp 43), type := 0, pos := "pci.go:43", after := #[{ on := 1, ground := Go.Ground.data }], guard := none }) (v := ?_) rfl (by kernel_rfl) (fun _ _ _ h => h) (Or.inl ⟨by rfl, fun W hW => ?_⟩) hS ?_
          rotate_left
          · obtain ⟨hw1, hw2⟩ := hW; have hw3 : W.cell? ⟨w.heap.size, 0, none⟩ = some v := hw1.cell 0; go_simp; (try go_bits); (try rw [if_pos (by omega)]); (try with_reducible rfl)
          (try simp only [Act.put, List.setIfInBounds_toArray, List.set_cons_succ, List.set_cons_zero])
          refine wpE_take (i := 3) (oi := { dst := some 45, op := Go.Op.fieldAddr 57 (Go.Operand.tmp 44) 0, type := 0, pos := "pci.go:43", after := #[{ on := 2, ground := Go.Ground.data }], guard := none }) (v := ?_) rfl (by kernel_rfl) (fun _ _ _ h => h) (Or.inl ⟨by rfl, fun W hW => ?_⟩) hS ?_
          rotate_left
          · obtain ⟨hw1, hw2⟩ := hW; have hw3 : W.cell? ⟨w.heap.size, 0, none⟩ = some v := hw1.cell 0; go_simp; (try go_bits); (try rw [if_pos (by omega)]); (try with_reducible rfl)
          (try simp only [Act.put, List.setIfInBounds_toArray, List.set_cons_succ, List.set_cons_zero])
          refine wpE_take (i := 4) (oi := { dst := some 46, op := Go.Op.load 55 (Go.Operand.tmp 45), type := 55, pos := "pci.go:43", after := #[{ on := 3, ground := Go.Ground.data }], guard := none }) (v := ?_) rfl (by kernel_rfl) (fun _ _ _ h => h) (Or.inl ⟨by rfl, fun W hW => ?_⟩) hS ?_
          rotate_left
          · obtain ⟨hw1, hw2⟩ := hW; have hw3 : W.cell? ⟨w.heap.size, 0, none⟩ = some v := hw1.cell 0; go_simp; (try go_bits); (try rw [if_pos (by omega)]); (try with_reducible rfl)
          (try simp only [Act.put, List.setIfInBounds_toArray, List.set_cons_succ, List.set_cons_zero])
          refine wpE_take (i := 5) (oi := { dst := some 47, op := Go.Op.load 60 (Go.Operand.tmp 7), type := 60, pos := "pci.go:43", after := #[], guard := none }) (v := .agg c) rfl (by kernel_rfl) (fun _ _ _ h => h) (Or.inl ⟨by rfl, fun W hW => ?_⟩) hS ?_
          · obtain ⟨hw1, hw2⟩ := hW; have hw3 : W.cell? ⟨w.heap.size, 0, none⟩ = some v := hw1.cell 0; exact exec_load rfl (.pointer (some ⟨wr.heap.size, 0, none⟩)) rfl (dev_load ⟨hw2, hcs⟩)
          (try simp only [Act.put, List.setIfInBounds_toArray, List.set_cons_succ, List.set_cons_zero])
          refine wpE_only (i := 6) (oi := { dst := some 48, op := Go.Op.buildSlice 55 1 #[(0, Go.Operand.tmp 47)], type := 55, pos := "pci.go:43", after := #[{ on := 5, ground := Go.Ground.data }], guard := none }) rfl (by kernel_rfl) (by rfl) (fun K hK => ?_)
          refine wp_run (exec_buildSlice1 rfl (.agg c) rfl (dev_slice hcs)) ?_
          obtain ⟨h1, h2⟩ := hS
          have hS := And.intro (h1.alloc (.cells c 60)) (h2.alloc (.cells c 60))
          refine hK _ _ hS ?_; clear hK K
          (try simp only [Act.put, List.setIfInBounds_toArray, List.set_cons_succ, List.set_cons_zero])
          refine wpE_only (i := 7) (oi := { dst := some 49, op := Go.Op.call { callee := Go.Callee.builtin Go.Builtin.append, args := #[Go.Operand.tmp 46, Go.Operand.tmp 48], argTypes := #[55, 55] }, type := 55, pos := "pci.go:43", after := #[{ on := 4, ground := Go.Ground.data }, { on := 6, ground := Go.Ground.data }], guard := none }) rfl (by kernel_rfl) (by rfl) (fun K hK => ?_)
          obtain ⟨hDc, hzc', hU', hBv, hown', hx, hU⟩ := HG.out
          refine wp_append_lies _ (.tmp 46) (.tmp 48) _ rfl w.heap.size 60 ie _ 257 264 Try.underlying55 hie hiz his hib (size_devCells 0) (by omega) v _ xs rfl (hown'.drew.alloc _) ⟨w10.heap.size, 0, none⟩ 1 1 c.toList rfl (by simp [hcs]) ?_ ?_ (by omega) ?_ ?_ ?_ _ rfl ?_
          exact cells_new _ _ _
          exact one_dev hDc hcs
          simp only [List.length_take, maxLen]; omega
          simp only [List.length_take]; omega
          simp [hzc']; omega
          intro g cap' w11 hown11 hg11 hgat hglt
          obtain ⟨h1, h2⟩ := hS
          have hS := And.intro (h1.grown hg11 (fun e => own_blk_ne hown' hBv (by decide) e.symm)) (h2.grown hg11 (fun e => by have := hvb _ e.symm; omega))
          have hU11 : Upd (fun _ => False) w w11 := (((hU.trans' hU' (fun i hi e => by subst e; have := hB0; omega)).drew.alloc _).grown hg11 (fun g' e => .inr (hown'.lt g' e).1))
          have HL := Lib.hid (And.intro hown11 (And.intro (laid_snoc HK.out hown'.1 hx hDc) hU11))
          clear hDc hzc' hU' hBv hown' hx hU hown11 hg11 hgat hglt hU11
          refine hK _ _ hS ?_; clear hK K
          (try simp only [Act.put, List.setIfInBounds_toArray, List.set_cons_succ, List.set_cons_zero])
          refine wpE_take (i := 8) (oi := { dst := some 50, op := Go.Op.nilCheck (Go.Operand.tmp 42), type := 0, pos := "pci.go:43", after := #[{ on := 0, ground := Go.Ground.data }, { on := 0, ground := Go.Ground.phase }, { on := 1, ground := Go.Ground.phase }, { on := 2, ground := Go.Ground.phase }, { on := 3, ground := Go.Ground.phase }, { on := 4, ground := Go.Ground.phase }, { on := 5, ground := Go.Ground.phase }, { on := 6, ground := Go.Ground.phase }, { on := 7, ground := Go.Ground.phase }], guard := none }) (v := ?_) rfl (by kernel_rfl) (fun _ _ _ h => h) (Or.inl ⟨by rfl, fun W hW => ?_⟩) hS ?_
          rotate_left
          · obtain ⟨hw1, hw2⟩ := hW; have hw3 : W.cell? ⟨w.heap.size, 0, none⟩ = some v := hw1.cell 0; go_simp; (try go_bits); (try rw [if_pos (by omega)]); (try with_reducible rfl)
          (try simp only [Act.put, List.setIfInBounds_toArray, List.set_cons_succ, List.set_cons_zero])
          refine wpE_take (i := 9) (oi := { dst := some 51, op := Go.Op.fieldAddr 57 (Go.Operand.tmp 50) 0, type := 0, pos := "pci.go:43", after := #[{ on := 8, ground := Go.Ground.data }, { on := 0, ground := Go.Ground.phase }, { on := 1, ground := Go.Ground.phase }, { on := 2, ground := Go.Ground.phase }, { on := 3, ground := Go.Ground.phase }, { on := 4, ground := Go.Ground.phase }, { on := 5, ground := Go.Ground.phase }, { on := 6, ground := Go.Ground.phase }, { on := 7, ground := Go.Ground.phase }], guard := none }) (v := ?_) rfl (by kernel_rfl) (fun _ _ _ h => h) (Or.inl ⟨by rfl, fun W hW => ?_⟩) hS ?_
          rotate_left
          · obtain ⟨hw1, hw2⟩ := hW; have hw3 : W.cell? ⟨w.heap.size, 0, none⟩ = some v := hw1.cell 0; go_simp; (try go_bits); (try rw [if_pos (by omega)]); (try with_reducible rfl)
          (try simp only [Act.put, List.setIfInBounds_toArray, List.set_cons_succ, List.set_cons_zero])
          refine wpE_last (oi := { dst := none, op := Go.Op.store 55 (Go.Operand.tmp 51) (Go.Operand.tmp 49), type := 0, pos := "pci.go:43", after := #[{ on := 9, ground := Go.Ground.data }, { on := 7, ground := Go.Ground.data }, { on := 7, ground := Go.Ground.chain }, { on := 0, ground := Go.Ground.phase }, { on := 1, ground := Go.Ground.phase }, { on := 2, ground := Go.Ground.phase }, { on := 3, ground := Go.Ground.phase }, { on := 4, ground := Go.Ground.phase }, { on := 5, ground := Go.Ground.phase }, { on := 6, ground := Go.Ground.phase }, { on := 7, ground := Go.Ground.phase }], guard := none }) rfl (by kernel_rfl) (by kernel_rfl) (by rfl) (fun K hK => ?_)
          obtain ⟨h1, h2⟩ := hS
          have hw3 : w11.cell? ⟨w.heap.size, 0, none⟩ = some v := h1.cell 0
          have hw4 : w11.frozen? ⟨w.heap.size, 0, none⟩ = false := h1.frozen 0
          go_simp
          refine hK _ _ ?_; clear hK K hw3 hw4
          go_wp2
          obtain ⟨hown11, hx11, hU11⟩ := HL.out
          have hne : (Value.slice (some ⟨g, 0, none⟩) ((ks.take k).length + 1) cap').ownBlock ≠ some w.heap.size := own_blk_ne hown11 h1 (by decide)
          have htl : (ks.take k).length = k := by simp; omega
          have hown12 := ownsRow_setCell_other hown11 (a := ⟨w.heap.size, 0, none⟩) hne (.slice (some ⟨g, 0, none⟩) (k + 1) cap')
          refine ⟨⟨k + 1, by omega, by go_num, ⟨_, (by simpa using h1.set_ 0 (.slice (some ⟨g, 0, none⟩) (k + 1) cap')), ⟨_, ?_, hx11⟩, hU11.setCell (.inr (Nat.le_refl _)) _⟩, okK_snoc HK.out hn HO.out hk0 hk1⟩, by simp [intOf]; omega⟩
          rw [htl] at hown12
          rw [show (ks.take (k + 1)).length = k + 1 from by simp; omega]
          exact hown12
        · have hbad : kd < 0 ∨ 255 < kd := by omega
          have hdec : (decide (kd < 0) || decide (255 < kd)) = true := by rcases hbad with h | h <;> simp [h]
          obtain ⟨hB, hown, hx, hU⟩ := HF.out
          have HU := Lib.hid (And.intro hU (okK_bad HK.out hok))
          clear hB hown hx hU hok
          rcases hbad with hbad | hbad
          · go_wp2
            go_ret2
            exact ⟨HU.out.1, .inr ⟨HU.out.2, rfl⟩⟩
          · have hbad' : ¬ kd < 0 := by omega
            go_wp2
            go_ret2
            exact ⟨HU.out.1, .inr ⟨HU.out.2, rfl⟩⟩
      · obtain rfl : k = ks.length := by omega
        go_wp2
        go_ret2
        obtain ⟨v, hB, hL, hU⟩ := HV.out
        have hO := HO.out
        rw [List.take_length] at hL hO
        obtain ⟨q, hq, hql, hbus⟩ := bus_of_laid hB hL hO (Nat.le_refl _)
        exact ⟨hU, .inl ⟨hO, _, q, rfl, Nat.le_refl _, ⟨hq, hql⟩, hbus⟩⟩
  · have hn' : (8 : Int) < ks.length := by omega
    have hO : okK ks = false := by simp [okK]; omega
    have HO := Lib.hid hO
    clear hO hr
    go_enter Try.func8, Try.ntmps8
    go_wp2
    go_ret2
    exact ⟨Upd.refl _ _, .inr ⟨HO.out, rfl⟩⟩
end Go.Proofs.Ytibhialnaibkjaa
