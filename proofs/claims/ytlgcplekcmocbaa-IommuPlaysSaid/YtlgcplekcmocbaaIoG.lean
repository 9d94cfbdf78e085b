import Derived.Test.YtlgcplekcmocbaaIoV
import Derived.Test.YtlgcplekcmocbaaIoR
import Derived.Test.YtlgcplekcmocbaaIo5
/- A table of one page of tables, in plain numbers. -/
namespace Go.Proofs.Ytlgcplekcmocbaa
set_option linter.unusedVariables false
set_option linter.unusedSimpArgs false
open Go.RowKit
set_option maxRecDepth 100000

theorem ent_put (m : Nat → Int) (t i v : Nat) (hv : v < 18446744073709551616) : ent (put m (t * 4096 + 8 * i) 8 (v : Int)) t i = v := by
  unfold ent
  rw [num_put, show (256 : Int) ^ 8 = 18446744073709551616 from rfl]
  omega
theorem ent_far (m : Nat → Int) (t i o : Nat) (v : Int) (h : t * 4096 + 8 * i + 8 ≤ o ∨ o + 8 ≤ t * 4096 + 8 * i) : ent (put m o 8 v) t i = ent m t i := by
  unfold ent
  rw [num_put_far _ _ _ _ _ _ h]
/-- what stands in the tables: page 1, entry 0, tells page 2; page 2, entry 0, tells page 3 -/
structure Tab (m : Nat → Int) : Prop where
  a : ent m 1 0 = 2049
  b : ent m 2 0 = 3073
/-- down by such tables -/
theorem dn_tab {m : Nat → Int} (h : Tab m) {a E : Nat} (ha : a < 2097152) (he : ent m 3 (a / 4096) = E) : dnG 0 8 m a 2 1 = (if badE E then (1, 0, 0) else if leafE E then (0, E, 0) else (1, 0, 0)) := by
  have h0 : a / 2 ^ 30 % 512 = 0 := by omega
  have h1 : a / 2 ^ 21 % 512 = 0 := by omega
  have h2 : a / 2 ^ 12 % 512 = a / 4096 := by omega
  have o1 : ¬ outG 0 8 1 := by unfold outG; omega
  have o2 : ¬ outG 0 8 2 := by unfold outG; omega
  have o3 : ¬ outG 0 8 3 := by unfold outG; omega
  have n1 : nxtE 2049 = 2 := by decide
  have n2 : nxtE 3073 = 3 := by decide
  have b1 : ¬ badE 2049 = true := by decide
  have b2 : ¬ badE 3073 = true := by decide
  have l1 : ¬ leafE 2049 = true := by decide
  have l2 : ¬ leafE 3073 = true := by decide
  have e0 : dnG 0 8 m a 0 3 = (if badE E then (1, 0, 0) else if leafE E then (0, E, 0) else (1, 0, 0)) := by
    unfold dnG; rw [if_neg o3, Nat.sub_zero, h2, he]
  have e1 : dnG 0 8 m a 1 2 = (if badE E then (1, 0, 0) else if leafE E then (0, E, 0) else (1, 0, 0)) := by
    unfold dnG; rw [if_neg o2, Nat.sub_zero, h1, h.b, if_neg b2, if_neg l2, n2, e0]
  unfold dnG
  rw [if_neg o1, Nat.sub_zero, h0, h.a, if_neg b1, if_neg l1, n1, e1]
/-- what lets an entry's rights: as the statement has it -/
def letsB (b : Nat) (wr : Bool) : Bool :=
  (b &&& 1 != 0) && (b &&& 16 != 0) && (b &&& 64 != 0) && ((b &&& 4 == 0) || (b &&& 2 != 0)) && (if wr then (b &&& 4 != 0) && (b &&& 128 != 0) else (b &&& 2 != 0))
theorem lets_tab (n b : Nat) (hn : n < 12) (hb : b < 256) (wr : Bool) : (badE (n * 1024 + b) = false ∧ leafE (n * 1024 + b) = true ∧ letE (n * 1024 + b) (accW wr) = true) ↔ letsB b wr = true := by
  have low : ∀ k, 255 &&& k = k → (n * 1024 + b) &&& k = b &&& k := fun k hk => by
    rw [and_low _ k hk, show (n * 1024 + b) % 256 = b from by omega]
  have hz : (n * 1024 + b) / 18014398509481984 = 0 := by omega
  have key : ∀ b : Nat, b < 256 → ∀ wr : Bool, ((((b &&& 1 == 0) || (b &&& 6 == 4)) = false ∧ (b &&& 10 != 0) = true ∧ (b &&& wantN (accW wr) == wantN (accW wr)) = true) ↔ letsB b wr = true) := by decide +kernel
  rw [← key b hb wr]
  unfold badE leafE letE
  rw [low 1 (by decide), low 6 (by decide), low 10 (by decide), low (wantN (accW wr)) (by cases wr <;> decide), hz]
  simp
theorem nxt_tab (n b : Nat) (hn : n < 12) (hb : b < 256) : nxtE (n * 1024 + b) = n := by unfold nxtE; omega
/-- an access by such tables, nothing being remembered -/
theorem acc_tab {m : Nat → Int} (h : Tab m) {s : Us} {d i n b o : Nat} (hd : d < 8) (hr : s.rt d = 1) (hi : i < 512) (ho : o < 512) (hn : n < 12) (hb : b < 256) (he : ent m 3 i = n * 1024 + b) (wr : Bool) :
    accTT 8 m s (d : Int) (i * 4096 + o * 8) 8 wr = if letsB b wr then (if n < 8 then (n * 4096 + o * 8, 0) else (0, 3)) else (0, 2) := by
  have hw : wellA 8 (i * 4096 + o * 8) = true := by unfold wellA; rw [show okS 8 = true from rfl]; simp; omega
  have hrr : rootP s (d : Int) = 1 := by unfold rootP; rw [if_pos (by omega)]; simpa using hr
  unfold accTT
  rw [if_neg (by rw [hw]; decide), if_neg (by rw [hrr]; decide), hrr]
  have hq : (i * 4096 + o * 8) / 4096 = i := by omega
  have hdn := dn_tab h (a := i * 4096 + o * 8) (E := n * 1024 + b) (by omega) (by rw [hq]; exact he)
  have hG : guestP 0 8 m 1 (i * 4096 + o * 8) (accW wr) = if letsB b wr then (n * 4096 + o * 8, permE (n * 1024 + b), 0) else (0, 0, 2) := by
    have hl := lets_tab n b hn hb wr
    unfold guestP
    rw [if_neg (by decide), if_neg (by omega), hdn]
    by_cases hL : letsB b wr = true
    · obtain ⟨g1, g2, g3⟩ := hl.2 hL
      rw [show (if badE (n * 1024 + b) = true then ((1 : Int), 0, 0) else if leafE (n * 1024 + b) = true then (0, n * 1024 + b, 0) else (1, 0, 0)) = ((0 : Int), n * 1024 + b, 0) from by rw [g1, g2]; rfl, if_pos hL]
      simp only []
      rw [if_neg (by decide), if_pos ⟨trivial, g3⟩]
      unfold plcE
      rw [nxt_tab n b hn hb, show (2 : Nat) ^ (12 + 9 * 0) = 4096 from rfl, show (i * 4096 + o * 8) % 4096 = o * 8 from by omega]
    · rw [if_neg hL]
      by_cases g1 : badE (n * 1024 + b) = true
      · rw [if_pos g1]; simp
      · rw [if_neg g1]
        by_cases g2 : leafE (n * 1024 + b) = true
        · rw [if_pos g2]
          have g3 : ¬ letE (n * 1024 + b) (accW wr) = true := fun g3 => hL (hl.1 ⟨by simpa using g1, g2, g3⟩)
          simp [g3]
        · rw [if_neg g2]; simp
  unfold accT
  rw [hG]
  by_cases hL : letsB b wr = true
  · rw [if_pos hL, if_pos hL]
    simp only []
    rw [if_neg (by decide)]
    by_cases h8 : n < 8
    · rw [if_pos h8, if_pos (hasR_iff.2 ⟨by decide, by omega, by simp; omega, by simp; omega⟩)]
    · rw [if_neg h8, if_neg (fun hh => by have := hasR_iff.1 hh; simp at this; omega)]
  · rw [if_neg hL, if_neg hL]; rfl
/-- a table of three cells -/
theorem tab_of (i E : Nat) (hi : i < 512) (hE : E < 18446744073709551616) : Tab (cellsM 8 (fun _ => 0) [(512, 2049), (1024, 3073), (1536 + (i : Int), E)]) ∧ ent (cellsM 8 (fun _ => 0) [(512, 2049), (1024, 3073), (1536 + (i : Int), E)]) 3 i = E := by
  have e : cellsM 8 (fun _ => 0) [(512, 2049), (1024, 3073), (1536 + (i : Int), E)] = put (put (put (fun _ => 0) (1 * 4096 + 8 * 0) 8 ((2049 : Nat) : Int)) (2 * 4096 + 8 * 0) 8 ((3073 : Nat) : Int)) (3 * 4096 + 8 * i) 8 (E : Int) := by
    unfold cellsM cellM
    simp only [List.foldl]
    rw [show 8 * ((1536 + (i : Int)) % ((512 * 8 : Nat) : Int)).toNat = 3 * 4096 + 8 * i from by omega]
    rfl
  rw [e]
  refine ⟨⟨?_, ?_⟩, ent_put _ _ _ _ hE⟩
  · rw [ent_far _ _ _ _ _ (by omega), ent_far _ _ _ _ _ (by omega), ent_put _ _ _ _ (by decide)]
  · rw [ent_far _ _ _ _ _ (by omega), ent_put _ _ _ _ (by decide)]
theorem Sd.ring {K : Nat} {own : Nat → Nat} {w : World} {p rp tp r : Nat} {s : Us} {m : Nat → Int} {l : List Tr} (h : Sd K own w p rp tp r s m l) (a : Nat) (h1 : a % 4096 = 0) (h2 : a + 4096 ≤ 8 * 4096) :
    Calls Try.prog 13 #[.pointer (some ⟨p, 0, none⟩), .int .u64 (a : Int)] w fun e w' => e = .returned (.int .i64 0) ∧ ∃ own', Step (fun x => K < x ∧ x ≤ K + 4) own w own' w' ∧ Sd K own' w' p rp tp r (usRg s a) m l := by
  refine (io_Ring h.u h.mm a h1 h2).mono ?_
  rintro e w1 ⟨rfl, hS, hU⟩
  exact ⟨rfl, own, hS.mono (fun _ h => by omega), hU, h.mm.step hS (by omega), h.t.step hS (by omega) (by omega), h.ok.kRg a (by omega) h1 h2, h.el⟩
theorem Sd.next {K : Nat} {own : Nat → Nat} {w : World} {p rp tp r : Nat} {s : Us} {m : Nat → Int} {l : List Tr} {x : Nat × Nat × Nat} {L : List (Nat × Nat × Nat)} {ov : Bool} (h : Sd K own w p rp tp r s m l) (hq : QS 8 s m (x :: L) ov) :
    Calls Try.prog 16 #[.pointer (some ⟨p, 0, none⟩)] w fun e w' => e = .returned (.tuple #[.agg #[.int .i64 (x.1 : Int), .int .i64 (x.2.1 : Int), .int .u64 (x.2.2 : Int)], .bool true]) ∧
      ∃ own' s', Step (fun x => K < x ∧ x ≤ K + 4) own w own' w' ∧ Sd K own' w' p rp tp r s' m l ∧ QS 8 s' m L ov ∧ s'.rt = s.rt := by
  obtain ⟨h0, h1, h2, h3, h4⟩ := hq.pop
  have hN := io_Next h.u h.mm (by omega) hq.ok h0
  rw [h1, h2, h3] at hN
  refine hN.mono ?_
  rintro e w1 ⟨rfl, own1, hS, hU, hM⟩
  exact ⟨rfl, own1, _, hS.mono (fun _ h => by omega), ⟨hU, hM, h.t.step hS (by omega) (by omega), h4.ok, h.el⟩, h4, nextS_rt s⟩
theorem Sd.none_ {K : Nat} {own : Nat → Nat} {w : World} {p rp tp r : Nat} {s : Us} {m : Nat → Int} {l : List Tr} (h : Sd K own w p rp tp r s m l) (hq : nextOk s = false) :
    Calls Try.prog 16 #[.pointer (some ⟨p, 0, none⟩)] w fun e w' => e = .returned (.tuple #[.agg #[.int .i64 0, .int .i64 0, .int .u64 0], .bool false]) ∧ ∃ own', Step (fun x => K < x ∧ x ≤ K + 4) own w own' w' ∧ Sd K own' w' p rp tp r s m l := by
  refine (io_Next_none h.u h.mm hq).mono ?_
  rintro e w1 ⟨rfl, own1, hS, hU, hM⟩
  exact ⟨rfl, own1, hS.mono (fun _ h => h.elim), hU, hM, h.t.step hS (fun h => h) (fun h => h), h.ok, h.el⟩
/-- one IOMMU, and what a law carries along -/
structure S1 (w0 : World) (own : Nat → Nat) (w : World) (p q rp tp p2 xo r : Nat) (s : Us) (m : Nat → Int) (l : List Tr) : Prop where
  st : Step (fun x => x ≠ 0 ∧ x < 50) (fun _ => 0) w0 own w
  a : Sd 0 own w p rp tp r s m l
  o : Blk w xo 31 #[.pointer (some ⟨p, 0, none⟩), .pointer (some ⟨q, 0, none⟩), .pointer (some ⟨rp, 0, none⟩), .pointer (some ⟨p2, 0, none⟩)] ∧ own xo = 50
section
variable {w0 w w' : World} {own own' : Nat → Nat} {p q rp tp p2 xo r : Nat} {s s2 : Us} {m m2 : Nat → Int} {l l2 : List Tr}
theorem S1.upd (h : S1 w0 own w p q rp tp p2 xo r s m l) : Upd (fun _ => False) w0 w := h.st.upd.mono (fun i hi e => absurd rfl e.1)
theorem S1.step (h : S1 w0 own w p q rp tp p2 xo r s m l) (hS : Step (fun x => 0 < x ∧ x ≤ 0 + 4) own w own' w') (hA : Sd 0 own' w' p rp tp r s2 m2 l2) : S1 w0 own' w' p q rp tp p2 xo r s2 m2 l2 :=
  ⟨h.st.trans (hS.mono (fun x h => by omega)), hA, hS.blk h.o.1 h.o.2 (by omega)⟩
theorem S1.none_ (h : S1 w0 own w p q rp tp p2 xo r s m l) (hS : Step (fun _ => False) own w own' w') : S1 w0 own' w' p q rp tp p2 xo r s m l :=
  ⟨h.st.trans (hS.mono (fun x h => h.elim)), h.a.step hS (fun x h => h.elim), hS.blk h.o.1 h.o.2 (fun h => h)⟩
theorem S1.drew (h : S1 w0 own w p q rp tp p2 xo r s m l) : S1 w0 own w.drew p q rp tp p2 xo r s m l := h.none_ (Step.refl _ _ _).drew
theorem S1.alloc (h : S1 w0 own w p q rp tp p2 xo r s m l) (o : Obj) : S1 w0 (ext own w 50) (w.alloc o) p q rp tp p2 xo r s m l := h.none_ ⟨(Upd.refl _ _).alloc _, fun b hb => ext_old _ _ _ hb⟩
theorem S1.cell (h : S1 w0 own w p q rp tp p2 xo r s m l) : w.cell? ⟨xo, 0, none⟩ = some (.pointer (some ⟨p, 0, none⟩)) ∧ xo < w.heap.size := ⟨h.o.1.cell 0, h.o.1.lt⟩
end
end Go.Proofs.Ytlgcplekcmocbaa
