import Derived.Test.YtlgcplekcmocbaaIo8
import Derived.Test.YtlgcplekcmocbaaPlace
/- IommuMessages: what is carried along. -/
namespace Go.Proofs.Ytlgcplekcmocbaa
set_option linter.unusedVariables false
set_option linter.unusedSimpArgs false
open Go.RowKit
set_option maxRecDepth 100000

/-- one index of one device has a place; N records in a ring at 0, j were told -/
structure MsOk (s : Us) (d k : Nat) (G I : Int) (j N : Nat) : Prop where
  ok : UsOk 8 s
  rd : s.rd = true
  ring : s.ring = 0
  fi : s.fi = j
  un : s.un = N
  g : s.mg d k = G
  i : s.mi d k = I
  far : ∀ x y, (x ≠ d ∨ y ≠ k) → s.mg x y = 0
theorem MsOk.init (d k : Nat) : MsOk (usRg us0 0) d k 0 0 0 0 := ⟨(UsOk.init 8).kRg 0 (by decide) (by decide) (by decide), rfl, rfl, rfl, rfl, rfl, rfl, fun _ _ _ => rfl⟩
theorem MsOk.set {s : Us} {d k N : Nat} {G I : Int} (h : MsOk s d k G I 0 N) (G' I' : Int) : MsOk (usMs s d k G' I') d k G' I' 0 N :=
  ⟨h.ok.kMs d k G' I', h.rd, h.ring, h.fi, h.un, by show (if d = d ∧ k = k then G' else s.mg d k) = G'; rw [if_pos ⟨rfl, rfl⟩], by show (if d = d ∧ k = k then I' else s.mi d k) = I'; rw [if_pos ⟨rfl, rfl⟩],
    fun x y hxy => by show (if x = d ∧ y = k then G' else s.mg x y) = 0; rw [if_neg (by omega)]; exact h.far x y hxy⟩
theorem MsOk.rec_ {s : Us} {d k N : Nat} {G I : Int} (h : MsOk s d k G I 0 N) (hN : N < 255) : MsOk (recS s) d k G I 0 (N + 1) := by
  have e : recS s = { s with un := s.un + 1 } := by unfold recS recOk; rw [h.rd, h.un]; simp [hN]
  have ho := h.ok.kRec
  rw [e] at ho ⊢
  exact ⟨ho, h.rd, h.ring, h.fi, by show s.un + 1 = N + 1; rw [h.un], h.g, h.i, h.far⟩
theorem MsOk.next {s : Us} {d k j N : Nat} {G I : Int} (h : MsOk s d k G I j N) (hN : N ≠ 0) (hj : j < 200) : nextOk s = true ∧ nextA s = j * 16 ∧ MsOk (nextS s) d k G I (j + 1) (N - 1) := by
  have e0 : nextOk s = true := by unfold nextOk; rw [h.rd, h.un]; simp [hN]
  have e : nextS s = { s with fi := (s.fi + 1) % 256, un := s.un - 1 } := by unfold nextS; rw [e0]; rfl
  have ho := h.ok.kNext
  rw [e] at ho ⊢
  refine ⟨e0, by unfold nextA; rw [h.ring, h.fi]; omega, ho, h.rd, h.ring, by show (s.fi + 1) % 256 = j + 1; rw [h.fi]; omega, by show s.un - 1 = N - 1; rw [h.un], h.g, h.i, h.far⟩
theorem MsOk.none_ {s : Us} {d k j : Nat} {G I : Int} (h : MsOk s d k G I j 0) : nextOk s = false := by unfold nextOk; rw [h.rd, h.un]; rfl
/-- what the law carries along -/
structure MB (w0 : World) (own : Nat → Nat) (w : World) (p q rp tp p2 xo xw : Nat) (G I : Int) (s : Us) (m : Nat → Int) (bs : List Nat) : Prop where
  st : Step (fun x => x = 1 ∨ x = 2 ∨ x = 8) (fun _ => 0) w0 own w
  u : UsAt own 1 w p rp tp s
  mm : MemAt ramK own 2 w rp 0 8 m
  o : Blk w xo 31 #[.pointer (some ⟨p, 0, none⟩), .pointer (some ⟨q, 0, none⟩), .pointer (some ⟨rp, 0, none⟩), .pointer (some ⟨p2, 0, none⟩)] ∧ own xo = 9
  wt : Blk w xw 38 #[.int .i64 G, .int .i64 I] ∧ own xw = 8
  bs : ∀ x ∈ bs, Blk w x 38 #[.int .i64 0, .int .i64 0] ∧ own x = 9
section
variable {w0 w w' : World} {own own' : Nat → Nat} {p q rp tp p2 xo xw : Nat} {G I : Int} {s s' : Us} {m m' : Nat → Int} {bs : List Nat}
theorem MB.step (h : MB w0 own w p q rp tp p2 xo xw G I s m bs) (hS : Step (fun x => x = 1 ∨ x = 2) own w own' w') (hU : UsAt own' 1 w' p rp tp s') (hM : MemAt ramK own' 2 w' rp 0 8 m') : MB w0 own' w' p q rp tp p2 xo xw G I s' m' bs :=
  ⟨h.st.trans (hS.mono (fun x h => by omega)), hU, hM, hS.blk h.o.1 h.o.2 (by omega), hS.blk h.wt.1 h.wt.2 (by omega), fun x hx => hS.blk (h.bs x hx).1 (h.bs x hx).2 (by omega)⟩
theorem MB.alloc (h : MB w0 own w p q rp tp p2 xo xw G I s m bs) (o : Obj) : MB w0 (ext own w 9) (w.alloc o) p q rp tp p2 xo xw G I s m bs := by
  have hS : Step (fun _ => False) own w (ext own w 9) (w.alloc o) := ⟨(Upd.refl _ _).alloc _, fun b hb => ext_old _ _ _ hb⟩
  exact h.step (hS.mono (fun _ h => h.elim)) (h.u.step hS (fun h => h)) (h.mm.step hS (fun h => h))
theorem MB.alloc0 (h : MB w0 own w p q rp tp p2 xo xw G I s m bs) : MB w0 (ext own w 9) (w.alloc (.cells #[.int .i64 0, .int .i64 0] 38)) p q rp tp p2 xo xw G I s m (w.heap.size :: bs) := by
  have h1 := h.alloc (.cells #[.int .i64 0, .int .i64 0] 38)
  refine { h1 with bs := fun x hx => ?_ }
  rcases List.mem_cons.1 hx with rfl | hx
  · exact ⟨Blk.new _ _ _, ext_new _ _ _ (Nat.le_refl _)⟩
  · exact h1.bs x hx
/-- the wish is written -/
theorem MB.want (h : MB w0 own w p q rp tp p2 xo xw G I s m bs) (G' I' : Int) : MB w0 own ((w.setCell ⟨xw, 0, none⟩ (.int .i64 G')).setCell ⟨xw, 1, none⟩ (.int .i64 I')) p q rp tp p2 xo xw G' I' s m bs := by
  have hS : Step (· = 8) own w own ((w.setCell ⟨xw, 0, none⟩ (.int .i64 G')).setCell ⟨xw, 1, none⟩ (.int .i64 I')) := ⟨((Upd.refl _ _).setCell (.inl h.wt.2) _).setCell (.inl h.wt.2) _, fun _ _ => rfl⟩
  exact ⟨h.st.trans (hS.mono (fun x h => by omega)), h.u.step hS (by decide), h.mm.step hS (by decide), hS.blk h.o.1 h.o.2 (by decide), ⟨(h.wt.1.set_ 0 (.int .i64 G')).set_ 1 (.int .i64 I'), h.wt.2⟩, fun x hx => hS.blk (h.bs x hx).1 (h.bs x hx).2 (by decide)⟩
theorem MB.upd (h : MB w0 own w p q rp tp p2 xo xw G I s m bs) : Upd (fun _ => False) w0 w := h.st.upd.mono (fun i hi e => absurd e (by decide))
/-- a message that goes nowhere -/
theorem io_Msg_bad {c cm n : Nat} (hU : UsAt own c w p rp tp s) (hM : MemAt ramK own cm w rp 0 n m) (hcm : c ≠ cm) (hok : UsOk n s) (d a k : Nat) (hd : d < 8) (ha : a < 18446744073709551616) (hb : a ≠ 4276092928 ∨ 32 ≤ k ∨ s.mg d k = 0) :
    Calls Try.prog 15 #[.pointer (some ⟨p, 0, none⟩), .int .i64 (d : Int), .int .u64 (a : Int), .int .u64 (k : Int)] w fun e w' => e = .returned (.tuple #[.agg #[.int .i64 0, .int .i64 0], .bool false]) ∧
      ∃ own', Step (fun x => x = c ∨ x = cm) own w own' w' ∧ UsAt own' c w' p rp tp (recS s) ∧ MemAt ramK own' cm w' rp 0 n (recM s m d 5 a) := by
  by_cases h1 : a ≠ 4276092928 ∨ 32 ≤ k
  · exact io_Msg_bad1 hU hM hcm hok d a k hd ha h1
  · obtain rfl : a = 4276092928 := by omega
    exact io_Msg_bad2 hU hM hcm hok d k hd (by omega) (by omega)
/-- one more record -/
theorem MB.bad (h : MB w0 own w p q rp tp p2 xo xw G I s m bs) {d0 k0 N : Nat} {G' I' : Int} (hs : MsOk s d0 k0 G' I' 0 N) (hK : KindsOk N m) (hN : N < 255) (d a k : Nat) (hd : d < 8) (ha : a < 18446744073709551616) (hb : a ≠ 4276092928 ∨ 32 ≤ k ∨ s.mg d k = 0) :
    Calls Try.prog 15 #[.pointer (some ⟨p, 0, none⟩), .int .i64 (d : Int), .int .u64 (a : Int), .int .u64 (k : Int)] w fun e w' => e = .returned (.tuple #[.agg #[.int .i64 0, .int .i64 0], .bool false]) ∧
      ∃ own' s' m', MB w0 own' w' p q rp tp p2 xo xw G I s' m' bs ∧ MsOk s' d0 k0 G' I' 0 (N + 1) ∧ KindsOk (N + 1) m' := by
  refine (io_Msg_bad h.u h.mm (by decide) hs.ok d a k hd ha hb).mono ?_
  rintro e w1 ⟨rfl, own1, hS, hU, hM⟩
  exact ⟨rfl, own1, _, _, h.step hS hU hM, hs.rec_ hN, kinds_rec hs.rd hs.ring hs.fi hs.un hN hK d a⟩
end
end Go.Proofs.Ytlgcplekcmocbaa
