import Derived.Test.YtonhlgfgbdiapaaGreatQma
import Derived.Test.YtonhlgfgbdiapaaGreatLaw3
import Derived.Test.YtonhlgfgbdiapaaGreatRam2
import Derived.Test.YtonhlgfgbdiapaaGreatBase
import Derived.Maps.Keyed
import Derived.Test.YtonhlgfgbdiapaaGreatMake
import Derived.Test.YtonhlgfgbdiapaaGreatChecked
import Derived.Tactics2
import Derived.Defers
import Derived.Laws.Pointers
import Derived.Laws.LoneSync
import Derived.RegionTactic
import Derived.RegionCalls
import Derived.ChangeAlike
/- IommuPlays: what is carried along. -/
namespace Go.Proofs.YtonhlgfgbdiapaaGreat
set_option linter.unusedVariables false
set_option linter.unusedSimpArgs false
open Go.RowKit
set_option maxRecDepth 100000

/-- the program's side; the document's -/
structure PA (own : Nat → Nat) (w : World) (p rp tp r : Nat) (s : Us) (m : Nat → Int) (l : List Tr) : Prop where
  u : UsAt own 1 w p rp tp s
  mm : MemAt ramK own 2 w rp 0 8 m
  t : TlbAt own 3 4 w tp r l
structure PD (own : Nat → Nat) (w : World) (q p2 t2 r : Nat) (s : Us) (m : Nat → Int) (l : List Tr) (ms : List To4) : Prop where
  mr : MemAt refK own 5 w p2 0 8 m
  ur : UrefAt own 6 10 w q p2 t2 s ms
  tr : TrefAt own 11 12 w t2 r l
structure PI (s : Us) (l : List Tr) (ms : List To4) : Prop where
  ok : UsOk 8 s
  el : EntsOk l
  uq : UniqT l
  rel : MsRel s ms
/-- the law's object and a call, boxed -/
structure DX (own : Nat → Nat) (w : World) (ob xb p q rp p2 : Nat) (xk xd xs : Int) (xa xv : Nat) (xw : Bool) (xg xq : Int) : Prop where
  b : Blk w ob 36 #[.pointer (some ⟨p, 0, none⟩), .pointer (some ⟨q, 0, none⟩), .pointer (some ⟨rp, 0, none⟩), .pointer (some ⟨p2, 0, none⟩)]
  o : own ob = 50
  b2 : Blk w xb 49 #[.int .i64 xk, .int .i64 xd, .int .i64 xs, .int .u64 (xa : Int), .int .u64 (xv : Int), .bool xw, .int .i64 xg, .int .i64 xq]
  o2 : own xb = 50
section
variable {own own' : Nat → Nat} {w w' : World} {p q rp tp p2 t2 r ob xb : Nat} {s : Us} {m : Nat → Int} {l : List Tr} {ms : List To4} {xk xd xs xg xq : Int} {xa xv : Nat} {xw : Bool}
theorem PA.step {C : Nat → Prop} (h : PA own w p rp tp r s m l) (hS : Step C own w own' w') (hC : ∀ x, C x → x = 0 ∨ 4 < x) : PA own' w' p rp tp r s m l :=
  ⟨h.u.step hS (fun h => by have := hC _ h; omega), h.mm.step hS (fun h => by have := hC _ h; omega), h.t.step hS (fun h => by have := hC _ h; omega) (fun h => by have := hC _ h; omega)⟩
theorem PD.step {C : Nat → Prop} (h : PD own w q p2 t2 r s m l ms) (hS : Step C own w own' w') (hC : ∀ x, C x → x < 5 ∨ 12 < x) : PD own' w' q p2 t2 r s m l ms :=
  ⟨h.mr.step hS (fun h => by have := hC _ h; omega), h.ur.step hS (fun h => by have := hC _ h; omega) (fun h => by have := hC _ h; omega), h.tr.step hS (fun h => by have := hC _ h; omega) (fun h => by have := hC _ h; omega)⟩
theorem DX.step {C : Nat → Prop} (h : DX own w ob xb p q rp p2 xk xd xs xa xv xw xg xq) (hS : Step C own w own' w') (hC : ¬ C 50) : DX own' w' ob xb p q rp p2 xk xd xs xa xv xw xg xq := by
  obtain ⟨h1, h2⟩ := hS.blk h.b h.o hC
  obtain ⟨h3, h4⟩ := hS.blk h.b2 h.o2 hC
  exact ⟨h1, h2, h3, h4⟩
theorem DX.cells (h : DX own w ob xb p q rp p2 xk xd xs xa xv xw xg xq) : w.cell? ⟨ob, 0, none⟩ = some (.pointer (some ⟨p, 0, none⟩)) ∧ w.cell? ⟨ob, 1, none⟩ = some (.pointer (some ⟨q, 0, none⟩)) ∧ w.cell? ⟨xb, 1, none⟩ = some (.int .i64 xd) ∧ w.cell? ⟨xb, 2, none⟩ = some (.int .i64 xs) ∧ w.cell? ⟨xb, 3, none⟩ = some (.int .u64 (xa : Int)) ∧ w.cell? ⟨xb, 4, none⟩ = some (.int .u64 (xv : Int)) ∧ w.cell? ⟨xb, 5, none⟩ = some (.bool xw) ∧ w.cell? ⟨xb, 6, none⟩ = some (.int .i64 xg) ∧ w.cell? ⟨xb, 7, none⟩ = some (.int .i64 xq) ∧ ob < w.heap.size ∧ xb < w.heap.size :=
  ⟨h.b.cell 0, h.b.cell 1, h.b2.cell 1, h.b2.cell 2, h.b2.cell 3, h.b2.cell 4, h.b2.cell 5, h.b2.cell 6, h.b2.cell 7, h.b.lt, h.b2.lt⟩
/-- what is there for every load of a call -/
def dS (ob xb q p t2 : Nat) (xd xs : Int) (xa xv : Nat) (xg xq : Int) (W : World) : Prop :=
  W.cell? ⟨ob, 0, none⟩ = some (.pointer (some ⟨p, 0, none⟩)) ∧ W.cell? ⟨ob, 1, none⟩ = some (.pointer (some ⟨q, 0, none⟩)) ∧ W.cell? ⟨xb, 1, none⟩ = some (.int .i64 xd) ∧ W.cell? ⟨xb, 2, none⟩ = some (.int .i64 xs) ∧ W.cell? ⟨xb, 3, none⟩ = some (.int .u64 (xa : Int)) ∧ W.cell? ⟨xb, 4, none⟩ = some (.int .u64 (xv : Int)) ∧ W.cell? ⟨xb, 6, none⟩ = some (.int .i64 xg) ∧ W.cell? ⟨xb, 7, none⟩ = some (.int .i64 xq) ∧ W.cell? ⟨q, 1, none⟩ = some (.pointer (some ⟨t2, 0, none⟩))
theorem DX.dS (h : DX own w ob xb p q rp p2 xk xd xs xa xv xw xg xq) (hd : PD own w q p2 t2 r s m l ms) : Go.Proofs.YtonhlgfgbdiapaaGreat.dS ob xb q p t2 xd xs xa xv xg xq w := by
  obtain ⟨h0, h1, h2, h3, h4, h5, _, h6, h7, _⟩ := h.cells
  exact ⟨h0, h1, h2, h3, h4, h5, h6, h7, hd.ur.cells.2.1⟩
end
theorem EntsOk.flushP {l : List Tr} (h : EntsOk l) (v p : Int) : EntsOk (flushP l v p) := fun t ht => h t (List.mem_filter.1 ht).1
theorem EntsOk.evict {l : List Tr} (h : EntsOk l) (i : Int) : EntsOk (evictT l i) := by
  unfold evictT
  split
  · split
    · exact h.flushP _ _
    · exact h
  · exact h
theorem accL_uniq {n : Nat} {m : Nat → Int} {root room : Nat} {l : List Tr} {d a size acc : Nat} (h : UniqT l) : UniqT (accL n m root room l d a size acc).2.2 := by
  unfold accL
  split
  · split
    · split <;> exact h
    · split
      · exact h
      · split <;> exact h.put _ _
  · split
    · exact h
    · split <;> exact h.put _ _
theorem accA_uniq {n : Nat} {m : Nat → Int} {s : Us} {room : Nat} {l : List Tr} (h : UniqT l) (dev : Int) (a : Nat) (sz : Int) (wr : Bool) : UniqT (accA n m s room l dev a sz wr).2.2 := by
  unfold accA
  split
  · exact h
  · split
    · exact h
    · exact accL_uniq h
theorem recS_mi (s : Us) : (recS s).mi = s.mi := by unfold recS; split <;> rfl
theorem PI.accSt {s : Us} {l : List Tr} {ms : List To4} (h : PI s l ms) (dev : Int) (k : Nat) : PI (accSt s dev k) l ms := by
  unfold Go.Proofs.YtonhlgfgbdiapaaGreat.accSt
  split
  · exact h
  · exact ⟨h.ok.kRec, h.el, h.uq, h.rel.of_mg (recS_mg s) (recS_mi s)⟩
theorem PI.msgS {s : Us} {l : List Tr} {ms : List To4} (h : PI s l ms) (dev : Int) (a : Nat) (k : Int) : PI (msgS s ms dev a k) l ms := by
  unfold Go.Proofs.YtonhlgfgbdiapaaGreat.msgS
  split
  · exact h
  · exact h.accSt dev 5
theorem PI.set {s : Us} {l : List Tr} {ms : List To4} (h : PI s l ms) (dev : Int) (x : Nat) (hx : x < 18446744073709551616) : PI (setSA s dev x) l ms := by
  unfold setSA
  split
  · exact ⟨h.ok.kRt _ x hx, h.el, h.uq, h.rel.of_mg rfl rfl⟩
  · exact h
theorem PI.drop {s : Us} {l : List Tr} {ms : List To4} (h : PI s l ms) (dev : Int) : PI (dropSA s dev) l ms := by
  unfold dropSA
  split
  · exact ⟨h.ok.kRt _ 0 (by decide), h.el, h.uq, h.rel.of_mg rfl rfl⟩
  · exact h
theorem PI.rem {s : Us} {l : List Tr} {ms : List To4} (h : PI s l ms) (dev : Int) (k : Nat) (g i : Int) : PI (remS s dev k g i) l (if remOk dev k then ms ++ [⟨dev, k, g, i⟩] else ms) := by
  refine ⟨?_, h.el, h.uq, h.rel.rem dev k g i⟩
  unfold remS
  split
  · exact h.ok.kMs _ _ _ _
  · exact h.ok
theorem PI.ring {s : Us} {l : List Tr} {ms : List To4} (h : PI s l ms) (a : Nat) (ha : a < 18446744073709551616) : PI (ringS 8 s a) l ms := by
  unfold ringS
  split
  · rename_i hr
    obtain ⟨h1, h2⟩ : a % 4096 = 0 ∧ a + 4096 ≤ 8 * 4096 := by unfold ringOk at hr; simpa using hr
    exact ⟨h.ok.kRg a ha h1 h2, h.el, h.uq, h.rel.of_mg rfl rfl⟩
  · exact h
theorem PI.next {s : Us} {l : List Tr} {ms : List To4} (h : PI s l ms) : PI (nextS s) l ms := by
  refine ⟨h.ok.kNext, h.el, h.uq, h.rel.of_mg ?_ ?_⟩ <;> (unfold nextS; split <;> rfl)
theorem PI.clear {s : Us} {l : List Tr} {ms : List To4} (h : PI s l ms) : PI { s with ov := false } l ms := ⟨⟨h.ok.root, h.ok.ring, h.ok.al, h.ok.fi, h.ok.un⟩, h.el, h.uq, h.rel.of_mg rfl rfl⟩
end Go.Proofs.YtonhlgfgbdiapaaGreat

/- The engine, plain: its registers, what a write and a step do. -/
namespace Go.Proofs.YtonhlgfgbdiapaaGreat
set_option linter.unusedVariables false
set_option linter.unusedSimpArgs false
open Go.RowKit
/-- registers (by their offset; control and status aside), state, how much was copied -/
structure Eg where
  rg : Nat → Nat
  st : Nat
  cp : Nat
def eg0 : Eg := ⟨fun _ => 0, 0, 0⟩
def fitsE (off : Nat) (size : Int) : Bool := (size == 4 || size == 8) && ((off : Int) % size == 0) && decide (off < 56)
/-- what a register shows -/
def regE (s : Eg) (k : Nat) : Nat := if k = 24 then 0 else if k = 32 then s.st else s.rg k
def readE (s : Eg) (off : Nat) (size : Int) : Nat := if fitsE off size then (if size = 8 then regE s (off / 8 * 8) else regE s (off / 8 * 8) / 2 ^ (8 * (off % 8)) % 4294967296) else 0
def badG (s : Eg) : Bool := decide (s.rg 16 = 0) || decide (4096 < s.rg 16) || decide (s.rg 0 % 8 ≠ 0) || decide (s.rg 8 % 8 ≠ 0) || decide (s.rg 16 % 8 ≠ 0)
def cmdE (s : Eg) (v : Nat) : Eg :=
  if s.st = 1 then (if v / 2 % 2 = 1 then { s with st := 0 } else s)
  else if v % 2 = 1 then { s with st := if badG s then 3 else 1, cp := 0 }
  else if v / 2 % 2 = 1 then { s with st := 0 } else s
def setE (old off : Nat) (size : Int) (v : Nat) : Nat := if size = 8 then v else if off % 8 = 0 then old / 4294967296 * 4294967296 + v % 4294967296 else old % 4294967296 + v % 4294967296 * 4294967296
def putE (s : Eg) (k v : Nat) : Eg := { s with rg := fun x => if x = k then v else s.rg x }
def writeE (s : Eg) (off : Nat) (size : Int) (v : Nat) : Eg :=
  if fitsE off size then
    (if off / 8 * 8 = 24 then (if off = 24 then cmdE s v else s)
     else if off / 8 * 8 = 32 then s
     else if s.st = 1 then s else putE s (off / 8 * 8) (setE (s.rg (off / 8 * 8)) off size v))
  else s
structure EgOk (s : Eg) : Prop where
  rg : ∀ k, s.rg k < 18446744073709551616
  st : s.st < 4
  cp : s.cp < 18446744073709551616
  run : s.st = 1 → s.cp % 8 = 0 ∧ s.cp < s.rg 16 ∧ s.rg 16 ≤ 4096 ∧ s.rg 0 % 8 = 0 ∧ s.rg 8 % 8 = 0 ∧ s.rg 16 % 8 = 0
theorem EgOk.init : EgOk eg0 := ⟨fun k => by show 0 < _; decide, by decide, by decide, fun h => by cases h⟩
theorem setE_lt {old off : Nat} {size : Int} {v : Nat} (ho : old < 18446744073709551616) (hv : v < 18446744073709551616) : setE old off size v < 18446744073709551616 := by
  unfold setE; split
  · exact hv
  · split <;> omega
theorem EgOk.cmd {s : Eg} (h : EgOk s) (v : Nat) : EgOk (cmdE s v) := by
  unfold cmdE
  split
  · split
    · exact ⟨h.rg, by simp, h.cp, fun h => by simp at h⟩
    · exact h
  · split
    · cases hb : badG s with
      | true => exact ⟨h.rg, by simp, by show 0 < _; decide, fun h => by simp at h⟩
      | false =>
        refine ⟨h.rg, by simp, by show 0 < _; decide, fun _ => ?_⟩
        unfold badG at hb
        simp at hb
        show 0 % 8 = 0 ∧ 0 < s.rg 16 ∧ s.rg 16 ≤ 4096 ∧ s.rg 0 % 8 = 0 ∧ s.rg 8 % 8 = 0 ∧ s.rg 16 % 8 = 0
        omega
    · split
      · exact ⟨h.rg, by simp, h.cp, fun h => by simp at h⟩
      · exact h
theorem EgOk.put {s : Eg} (h : EgOk s) (hs : s.st ≠ 1) (k v : Nat) (hv : v < 18446744073709551616) : EgOk (putE s k v) :=
  ⟨fun x => by show (if x = k then v else s.rg x) < _; split; exact hv; exact h.rg x, h.st, h.cp, fun e => absurd e hs⟩
theorem EgOk.write {s : Eg} (h : EgOk s) (off : Nat) (size : Int) (v : Nat) (hv : v < 18446744073709551616) : EgOk (writeE s off size v) := by
  unfold writeE
  split
  · split
    · split
      · exact h.cmd v
      · exact h
    · split
      · exact h
      · split
        · exact h
        · rename_i hs
          exact h.put hs _ _ (setE_lt (h.rg _) hv)
  · exact h
/-- a message of a flat engine -/
def msgF (a d : Nat) : Int × Int × Bool := if a = 4276092928 ∧ d ≤ 15 then (1, 16 + d, true) else (0, 0, false)
def msgE (s : Eg) : Int × Int × Bool := if s.rg 40 = 0 then (0, 0, false) else msgF (s.rg 40) (s.rg 48)
/-- a step of a flat engine over a memory of n frames from base on: does it find both places -/
def goF (base n : Nat) (s : Eg) : Bool := hasR base n (((s.rg 0 + s.cp) % 18446744073709551616 : Nat) : Int) 8 && hasR base n (((s.rg 8 + s.cp) % 18446744073709551616 : Nat) : Int) 8
def stepS (base n : Nat) (s : Eg) : Eg :=
  if s.st = 1 then (if goF base n s then (if s.cp + 8 < s.rg 16 then { s with cp := s.cp + 8 } else { s with st := 2, cp := s.cp + 8 }) else { s with st := 3 }) else s
def stepM (base n : Nat) (s : Eg) (m : Nat → Int) : Nat → Int :=
  if s.st = 1 ∧ goF base n s = true then wrR base n m (((s.rg 8 + s.cp) % 18446744073709551616 : Nat) : Int) 8 (rdR base n m (((s.rg 0 + s.cp) % 18446744073709551616 : Nat) : Int) 8).1 else m
def stepR (base n : Nat) (s : Eg) : Int × Int × Bool := if s.st = 1 ∧ (stepS base n s).st ≠ 1 then msgE s else (0, 0, false)
theorem EgOk.step {s : Eg} (h : EgOk s) (base n : Nat) : EgOk (stepS base n s) := by
  unfold stepS
  split
  · rename_i hs
    obtain ⟨h1, h2, h3, h4, h5, h6⟩ := h.run hs
    split
    · split
      · rename_i hl
        exact ⟨h.rg, h.st, by show s.cp + 8 < _; omega, fun _ => ⟨by show (s.cp + 8) % 8 = 0; omega, hl, h3, h4, h5, h6⟩⟩
      · exact ⟨h.rg, by simp, by show s.cp + 8 < _; omega, fun h => by simp at h⟩
    · exact ⟨h.rg, by simp, h.cp, fun h => by simp at h⟩
  · exact h
end Go.Proofs.YtonhlgfgbdiapaaGreat

/- Maps: a block that is a map, its entries in order. -/
namespace Go.Proofs.YtonhlgfgbdiapaaGreat
set_option linter.unusedVariables false
set_option linter.unusedSimpArgs false
open Go.RowKit Go.Maps Go.ChangeMaps
section
variable {α : Type}
/-- block b is the map of these entries -/
def MapB (P : Program) (k : TypeId) (enc : α → Value) (w : World) (b : Nat) (kv : List (α × Value)) : Prop :=
  ∃ es clock, w.heap[b]? = some (.map es clock) ∧ es.toList.map (fun x => (x.key, x.val)) = kv.map (fun p => (enc p.1, p.2)) ∧ (∀ p ∈ kv, ∃ l, keyOf P k (enc p.1) = some l) ∧ (kv.map Prod.fst).Nodup
variable {P : Program} {k t e : TypeId} {enc : α → Value} {w w' : World} {b : Nat} {kv : List (α × Value)}
theorem MapB.made (w : World) (P : Program) (k : TypeId) (enc : α → Value) : MapB P k enc (w.alloc (.map #[] 0)) w.heap.size [] :=
  ⟨#[], 0, (MapKept.heap_alloc w _).1, rfl, fun p hp => (by cases hp), List.nodup_nil⟩
theorem MapB.lt (h : MapB P k enc w b kv) : b < w.heap.size := by
  obtain ⟨es, clock, hb, _⟩ := h
  exact (Array.getElem?_eq_some_iff.1 hb).1
theorem MapB.upd {S : Nat → Prop} (h : MapB P k enc w b kv) (hU : Upd S w w') (hS : ¬ S b) : MapB P k enc w' b kv := by
  have hl := h.lt
  obtain ⟨es, clock, hb, r⟩ := h
  exact ⟨es, clock, (hU.block b hl hS).trans hb, r⟩
theorem MapB.step {C : Nat → Prop} {own own' : Nat → Nat} {d : Nat} (h : MapB P k enc w b kv) (ho : own b = d) (hS : Step C own w own' w') (hd : ¬ C d) : MapB P k enc w' b kv ∧ own' b = d :=
  ⟨h.upd hS.upd (by rw [ho]; exact hd), (hS.old b h.lt).trans ho⟩
theorem MapB.find (h : MapB P k enc w b kv) (K : Keyed P k) (hinj : ∀ x y, enc x = enc y → x = y) {a : α} {kl : Lit} (hkey : keyOf P k (enc a) = some kl) :
    ∃ es clock, w.heap[b]? = some (.map es clock) ∧ es.toList.map (fun x => (x.key, x.val)) = kv.map (fun p => (enc p.1, p.2)) ∧
    (((Instr.findKey k (enc a) es.toList).run P w = .ok none w ∧ ∀ p ∈ kv, p.1 ≠ a) ∨ ∃ j e0, (Instr.findKey k (enc a) es.toList).run P w = .ok (some (j, e0.val)) w ∧ es.toList[j]? = some e0 ∧ e0.key = enc a ∧ kv[j]? = some (a, e0.val)) := by
  obtain ⟨es, clock, hb, hes, hk, hn⟩ := h
  refine ⟨es, clock, hb, hes, ?_⟩
  have hks : ∀ x ∈ es.toList, ∃ l, keyOf P k x.key = some l := fun x hx => by
    have hm : (x.key, x.val) ∈ kv.map (fun p => (enc p.1, p.2)) := by rw [← hes]; exact List.mem_map.2 ⟨x, hx, rfl⟩
    obtain ⟨p, hp, e⟩ := List.mem_map.1 hm
    obtain ⟨l, hl⟩ := hk p hp
    refine ⟨l, ?_⟩
    have e1 : enc p.1 = x.key := congrArg Prod.fst e
    rw [← e1]; exact hl
  rcases K.find w hkey es.toList hks with ⟨h1, h2⟩ | ⟨j, e0, h1, h2, h3⟩
  · refine .inl ⟨h1, fun p hp e => ?_⟩
    have hm : (enc p.1, p.2) ∈ es.toList.map (fun x => (x.key, x.val)) := by rw [hes]; exact List.mem_map.2 ⟨p, hp, rfl⟩
    obtain ⟨x, hx, ex⟩ := List.mem_map.1 hm
    have e1 : x.key = enc p.1 := congrArg Prod.fst ex
    exact h2 x hx (by rw [e1, e])
  · refine .inr ⟨j, e0, h1, h2, h3, ?_⟩
    have hj : (kv.map (fun p => (enc p.1, p.2)))[j]? = some (e0.key, e0.val) := by rw [← hes, List.getElem?_map, h2]; rfl
    rw [List.getElem?_map] at hj
    obtain ⟨p, hp, ep⟩ := Option.map_eq_some_iff.1 hj
    have e1 : enc p.1 = enc a := (congrArg Prod.fst ep).trans h3
    have e2 : p.2 = e0.val := congrArg Prod.snd ep
    rw [hp]
    obtain ⟨p1, p2⟩ := p
    simp only [] at e1 e2
    rw [hinj _ _ e1, e2]
end
section
variable {α : Type} [DecidableEq α]
def kvGet : List (α × Value) → α → Option Value
  | [], _ => none
  | p :: r, a => if p.1 = a then some p.2 else kvGet r a
def kvPut : List (α × Value) → α → Value → List (α × Value)
  | [], a, v => [(a, v)]
  | p :: r, a, v => if p.1 = a then (a, v) :: r else p :: kvPut r a v
theorem kvGet_none {kv : List (α × Value)} {a : α} (h : ∀ p ∈ kv, p.1 ≠ a) : kvGet kv a = none := by
  induction kv with
  | nil => rfl
  | cons p r ih => rw [kvGet, if_neg (h p (List.mem_cons_self ..))]; exact ih (fun q hq => h q (List.mem_cons_of_mem _ hq))
theorem kvPut_none {kv : List (α × Value)} {a : α} (h : ∀ p ∈ kv, p.1 ≠ a) (v : Value) : kvPut kv a v = kv ++ [(a, v)] := by
  induction kv with
  | nil => rfl
  | cons p r ih => rw [kvPut, if_neg (h p (List.mem_cons_self ..)), ih (fun q hq => h q (List.mem_cons_of_mem _ hq))]; rfl
theorem kvGet_at {kv : List (α × Value)} (hn : (kv.map Prod.fst).Nodup) : ∀ {j : Nat} {a : α} {v : Value}, kv[j]? = some (a, v) → kvGet kv a = some v := by
  induction kv with
  | nil => intro j a v h; simp at h
  | cons p r ih =>
    intro j a v h
    rw [List.map_cons, List.nodup_cons] at hn
    cases j with
    | zero => rw [List.getElem?_cons_zero] at h; cases h; rw [kvGet, if_pos rfl]
    | succ j =>
      rw [List.getElem?_cons_succ] at h
      have hm : a ∈ r.map Prod.fst := List.mem_map.2 ⟨_, List.mem_of_getElem? h, rfl⟩
      rw [kvGet, if_neg (fun e => hn.1 (by rw [e]; exact hm))]
      exact ih hn.2 h
theorem kvPut_at {kv : List (α × Value)} (hn : (kv.map Prod.fst).Nodup) : ∀ {j : Nat} {a : α} {v0 : Value}, kv[j]? = some (a, v0) → ∀ v, kvPut kv a v = kv.set j (a, v) := by
  induction kv with
  | nil => intro j a v h; simp at h
  | cons p r ih =>
    intro j a v0 h v
    rw [List.map_cons, List.nodup_cons] at hn
    cases j with
    | zero => rw [List.getElem?_cons_zero] at h; cases h; rw [kvPut, if_pos rfl]; rfl
    | succ j =>
      rw [List.getElem?_cons_succ] at h
      have hm : a ∈ r.map Prod.fst := List.mem_map.2 ⟨_, List.mem_of_getElem? h, rfl⟩
      rw [kvPut, if_neg (fun e => hn.1 (by rw [e]; exact hm)), ih hn.2 h v]
      rfl
theorem kvPut_keys {kv : List (α × Value)} {a : α} {v : Value} {p : α × Value} (h : p ∈ kvPut kv a v) : p.1 = a ∨ p ∈ kv := by
  induction kv with
  | nil => rw [kvPut, List.mem_singleton] at h; exact .inl (by rw [h])
  | cons q r ih =>
    rw [kvPut] at h
    split at h
    · rcases List.mem_cons.1 h with rfl | h
      · exact .inl rfl
      · exact .inr (List.mem_cons_of_mem _ h)
    · rcases List.mem_cons.1 h with rfl | h
      · exact .inr (List.mem_cons_self ..)
      · rcases ih h with h | h
        · exact .inl h
        · exact .inr (List.mem_cons_of_mem _ h)
theorem kvPut_nodup {kv : List (α × Value)} {a : α} {v : Value} (hn : (kv.map Prod.fst).Nodup) : ((kvPut kv a v).map Prod.fst).Nodup := by
  induction kv with
  | nil => simp [kvPut]
  | cons q r ih =>
    rw [List.map_cons, List.nodup_cons] at hn
    rw [kvPut]
    split
    · rename_i he
      rw [List.map_cons, List.nodup_cons]
      exact ⟨by show a ∉ _; rw [← he]; exact hn.1, hn.2⟩
    · rename_i he
      rw [List.map_cons, List.nodup_cons]
      refine ⟨fun hm => ?_, ih hn.2⟩
      obtain ⟨p, hp, e⟩ := List.mem_map.1 hm
      rcases kvPut_keys hp with h | h
      · exact he (by rw [← e, h])
      · exact hn.1 (List.mem_map.2 ⟨p, h, e⟩)
theorem kvGet_put {kv : List (α × Value)} {a x : α} {v : Value} : kvGet (kvPut kv a v) x = if x = a then some v else kvGet kv x := by
  induction kv with
  | nil =>
    show (if a = x then some v else none) = if x = a then some v else none
    by_cases h : x = a
    · rw [if_pos h.symm, if_pos h]
    · rw [if_neg (fun e => h e.symm), if_neg h]
  | cons q r ih =>
    rw [kvPut]
    split
    · rename_i he
      rw [kvGet, kvGet]
      by_cases h : x = a
      · rw [if_pos h.symm, if_pos h]
      · rw [if_neg (fun e => h e.symm), if_neg h, if_neg (by rw [he]; exact fun e => h e.symm)]
    · rename_i he
      rw [kvGet, kvGet, ih]
      by_cases h : x = a
      · rw [if_neg (by rw [h]; exact he), if_pos h, if_pos h]
      · rw [if_neg h, if_neg h]
variable {P : Program} {k t e : TypeId} {enc : α → Value} {w w' : World} {b : Nat} {kv : List (α × Value)}
/-- 'm[k]', 'v, ok := m[k]' -/
theorem MapB.look (h : MapB P k enc w b kv) (K : Keyed P k) (hinj : ∀ x y, enc x = enc y → x = y) (ht : P.underlying t = some (.map k e)) {z : Value} (hz : (zeroValue e).run P w = .ok z w) {a : α} {kl : Lit} (hkey : keyOf P k (enc a) = some kl) (c : Bool) :
    (Instr.lookup t (.map (some b)) (enc a) c).run P w = .ok (if c then .tuple #[(kvGet kv a).getD z, .bool (kvGet kv a).isSome] else (kvGet kv a).getD z) w := by
  have hn : (kv.map Prod.fst).Nodup := by obtain ⟨_, _, _, _, _, hn⟩ := h; exact hn
  obtain ⟨es, clock, hb, hes, hf⟩ := h.find K hinj hkey
  rcases hf with ⟨h1, h2⟩ | ⟨j, e0, h1, h2, h3, h4⟩
  · rw [kvGet_none h2]
    simp [Instr.lookup, run_underlying ht, MapKept.run_getObj_map hb, K.check w _ hkey, h1, hz, Result.andThen]
  · rw [kvGet_at hn h4]
    simp [Instr.lookup, run_underlying ht, MapKept.run_getObj_map hb, K.check w _ hkey, h1, Result.andThen]
/-- 'm[k] = v' -/
theorem MapB.store (h : MapB P k enc w b kv) (K : Keyed P k) (hinj : ∀ x y, enc x = enc y → x = y) (ht : P.underlying t = some (.map k e)) {a : α} {kl : Lit} (hkey : keyOf P k (enc a) = some kl) (v : Value) :
    ∃ w', (Instr.mapUpdate t (.map (some b)) (enc a) v).run P w = .ok () w' ∧ MapB P k enc w' b (kvPut kv a v) ∧ Upd (· = b) w w' := by
  have h0 := h
  obtain ⟨_, _, _, _, hk, hn⟩ := h0
  obtain ⟨es, clock, hb, hes, hf⟩ := h.find K hinj hkey
  have hk' : ∀ p ∈ kvPut kv a v, ∃ l, keyOf P k (enc p.1) = some l := fun p hp => by
    rcases kvPut_keys hp with e1 | hp
    · rw [e1]; exact ⟨_, hkey⟩
    · exact hk p hp
  have hU : ∀ es' clock', Upd (· = b) w (setBlock w b (.map es' clock')) := fun es' clock' => ⟨rfl, rfl, rfl, by simp [setBlock], fun i _ hi => heap_setBlock_other hb _ hi⟩
  rcases hf with ⟨h1, h2⟩ | ⟨j, e0, h1, h2, h3, h4⟩
  · refine ⟨setBlock w b (.map (es.push ⟨enc a, v, clock⟩) (clock + 1)), ?_, ⟨_, _, heap_setBlock_same hb _, ?_, hk', kvPut_nodup hn⟩, hU _ _⟩
    · simp [Instr.mapUpdate, run_underlying ht, MapKept.run_getObj_map hb, K.check w false hkey, h1, MapKept.run_setObj_map _ hb, Result.andThen, setBlock]
    · rw [kvPut_none h2, List.map_append, ← hes]; simp
  · have hj : es[j]? = some e0 := by simpa using h2
    refine ⟨setBlock w b (.map (es.modify j (fun e' => { e' with key := enc a, val := v })) clock), ?_, ⟨_, _, heap_setBlock_same hb _, ?_, hk', kvPut_nodup hn⟩, hU _ _⟩
    · simp [Instr.mapUpdate, run_underlying ht, MapKept.run_getObj_map hb, K.check w false hkey, h1, hj, h3, K.stays w hkey, MapKept.run_setObj_map _ hb, Result.andThen, setBlock]
    · rw [Array.toList_modify, modify_eq_set _ _ _ _ h2, kvPut_at hn h4, List.map_set, List.map_set, ← hes]
theorem wpList_storeB {ops : Array Oper} {rest : List Oper} {o : Oper} {act : Act} {Q : Exit → Act → World → Prop} (hg : o.guard = none) (m x v : Operand) (t : TypeId) (hop : o.op = Op.mapUpdate t m x v)
    (h : MapB P k enc w b kv) (K : Keyed P k) (hinj : ∀ x y, enc x = enc y → x = y) (ht : P.underlying t = some (.map k e)) (hm : act.eval m = .map (some b)) {a : α} {kl : Lit} (hx : act.eval x = enc a) (hkey : keyOf P k (enc a) = some kl) (val : Value) (hv : act.eval v = val)
    (hK : ∀ w', MapB P k enc w' b (kvPut kv a val) → Upd (· = b) w w' → wpList P ops Q rest (act.put o.dst undef) w') : wpList P ops Q (o :: rest) act w := by
  refine wpList_plain hg fun K' hK' => ?_
  obtain ⟨w', hrun, r1, r2⟩ := h.store K hinj ht hkey val
  unfold Oper.wp
  simp [execOp, hop, hm, hx, hv, hrun, Result.andThen]
  exact hK' _ _ (hK w' r1 r2)
theorem wpList_lookB {ops : Array Oper} {rest : List Oper} {o : Oper} {act : Act} {Q : Exit → Act → World → Prop} (hg : o.guard = none) (m x : Operand) (t : TypeId) (c : Bool) (hop : o.op = Op.lookup t m x c)
    (h : MapB P k enc w b kv) (K : Keyed P k) (hinj : ∀ x y, enc x = enc y → x = y) (ht : P.underlying t = some (.map k e)) {z : Value} (hz : (zeroValue e).run P w = .ok z w) (hm : act.eval m = .map (some b)) {a : α} {kl : Lit} (hx : act.eval x = enc a) (hkey : keyOf P k (enc a) = some kl) (val : Value)
    (hval : (if c then .tuple #[(kvGet kv a).getD z, .bool (kvGet kv a).isSome] else (kvGet kv a).getD z) = val)
    (hK : wpList P ops Q rest (act.put o.dst val) w) : wpList P ops Q (o :: rest) act w := by
  refine wpList_plain hg fun K' hK' => ?_
  have hrun := h.look K hinj ht hz hkey c
  rw [hval] at hrun
  unfold Oper.wp
  simp [execOp, hop, hm, hx, hrun, Result.andThen]
  exact hK' _ _ hK
end
end Go.Proofs.YtonhlgfgbdiapaaGreat

/- The engine: its cells; what tells its registers. -/
namespace Go.Proofs.YtonhlgfgbdiapaaGreat
set_option linter.unusedVariables false
set_option linter.unusedSimpArgs false
open Go.RowKit Go.Maps
set_option maxRecDepth 100000

def encU (k : Nat) : Value := .int .u64 (k : Int)
theorem encU_inj : ∀ x y, encU x = encU y → x = y := by intro x y h; unfold encU at h; injection h with _ h; omega
theorem keyU : Keyed Tryz.prog 23 := int_keyed Tryz.underlying23
theorem keyU_mk (k : Nat) (hk : k < 18446744073709551616) : keyOf Tryz.prog 23 (encU k) = some (.int .u64 (k : Int)) :=
  keyOf_int_mk Tryz.underlying23 (by simp [Lit.wf, IntKind.min, IntKind.max, IntKind.signed, IntKind.bits]; omega)
theorem zeroU (w : World) : (zeroValue 23).run Tryz.prog w = .ok (.int .u64 0) w := by kernel_rfl
/-- the registers' map -/
def RegAt (own : Nat → Nat) (c : Nat) (w : World) (rb : Nat) (rg : Nat → Nat) : Prop :=
  own rb = c ∧ ∃ kv : List (Nat × Value), MapB Tryz.prog 23 encU w rb kv ∧ ∀ k, (kvGet kv k).getD (.int .u64 0) = .int .u64 (rg k : Int)
/-- what tells the registers, when it was made -/
def bmE (f e : Nat) : Value := .func (.func f) #[.pointer (some ⟨e, 0, none⟩)] #[]
def rdsL (e : Nat) : List (Nat × Value) := [(0, bmE 38 e), (8, bmE 39 e), (16, bmE 41 e), (24, bmE 62 e), (32, bmE 63 e), (40, bmE 42 e), (48, bmE 43 e)]
def egC (mp : Nat) (way : Value) (rb st cp : Nat) (dn : Int) (rd : Value) : Array Value := #[.pointer (some ⟨mp, 0, none⟩), way, .map (some rb), .int .u64 (st : Int), .int .u64 (cp : Int), .int .u32 dn, .int .i32 0, .int .u32 0, rd]
/-- its reads: not made yet, or made -/
def RdsAt (own : Nat → Nat) (c : Nat) (w : World) (e rb : Nat) (dn : Int) (rd : Value) : Prop :=
  (dn = 0 ∧ rd = .map none) ∨ (dn = 1 ∧ ∃ fb, rd = .map (some fb) ∧ fb ≠ rb ∧ own fb = c ∧ MapB Tryz.prog 23 encU w fb (rdsL e))
def EngAt (own : Nat → Nat) (c : Nat) (w : World) (e mp : Nat) (way : Value) (s : Eg) : Prop :=
  ∃ rb dn rd, Blk w e 123 (egC mp way rb s.st s.cp dn rd) ∧ own e = c ∧ RegAt own c w rb s.rg ∧ RdsAt own c w e rb dn rd
section
variable {own own' : Nat → Nat} {c e mp rb b : Nat} {way rd : Value} {w w' : World} {s s' : Eg} {rg : Nat → Nat} {dn : Int}
theorem Blk.ne_map {ty : TypeId} {cs : Array Value} {kv : List (Nat × Value)} (h : Blk w e ty cs) (hm : MapB Tryz.prog 23 encU w b kv) : b ≠ e := by
  rintro rfl
  obtain ⟨es, clock, hb, _⟩ := hm
  unfold Blk at h
  rw [h] at hb
  cases hb
theorem RegAt.step {C : Nat → Prop} (h : RegAt own c w rb rg) (hS : Step C own w own' w') (hc : ¬ C c) : RegAt own' c w' rb rg := by
  obtain ⟨ho, kv, hm, hk⟩ := h
  obtain ⟨h1, h2⟩ := hm.step ho hS hc
  exact ⟨h2, kv, h1, hk⟩
theorem RdsAt.step {C : Nat → Prop} (h : RdsAt own c w e rb dn rd) (hS : Step C own w own' w') (hc : ¬ C c) : RdsAt own' c w' e rb dn rd := by
  rcases h with h | ⟨h1, fb, h2, h3, ho, hm⟩
  · exact .inl h
  · obtain ⟨h4, h5⟩ := hm.step ho hS hc
    exact .inr ⟨h1, fb, h2, h3, h5, h4⟩
theorem EngAt.step {C : Nat → Prop} (h : EngAt own c w e mp way s) (hS : Step C own w own' w') (hc : ¬ C c) : EngAt own' c w' e mp way s := by
  obtain ⟨rb, dn, rd, hb, ho, hr, hd⟩ := h
  obtain ⟨h1, h2⟩ := hS.blk hb ho hc
  exact ⟨rb, dn, rd, h1, h2, hr.step hS hc, hd.step hS hc⟩
/-- a cell of its own is written -/
theorem EngAt.put (h : EngAt own c w e mp way s) (j : Nat) (x : Value) (he : ∀ rb dn rd, egC mp way rb s'.st s'.cp dn rd = (egC mp way rb s.st s.cp dn rd).setIfInBounds j x) (hrg : s'.rg = s.rg) :
    Step (· = c) own w own (w.setCell ⟨e, j, none⟩ x) ∧ EngAt own c (w.setCell ⟨e, j, none⟩ x) e mp way s' := by
  obtain ⟨rb, dn, rd, hb, ho, ⟨hro, kv, hm, hk⟩, hd⟩ := h
  have hU : Upd (· = e) w (w.setCell ⟨e, j, none⟩ x) := (Upd.refl (· = e) w).setCell (p := ⟨e, j, none⟩) (.inl rfl) _
  refine ⟨⟨hU.mono (fun i _ h => by rw [h]; exact ho), fun _ _ => rfl⟩, rb, dn, rd, by rw [he]; exact hb.set_ j x, ho, ⟨hro, kv, hm.upd hU (hb.ne_map hm), by rw [hrg]; exact hk⟩, ?_⟩
  rcases hd with h | ⟨h1, fb, h2, h3, hfo, hfm⟩
  · exact .inl h
  · exact .inr ⟨h1, fb, h2, h3, hfo, hfm.upd hU (hb.ne_map hfm)⟩
theorem EngAt.cells (h : EngAt own c w e mp way s) : w.cell? ⟨e, 0, none⟩ = some (.pointer (some ⟨mp, 0, none⟩)) ∧ w.cell? ⟨e, 1, none⟩ = some way ∧ w.cell? ⟨e, 3, none⟩ = some (.int .u64 (s.st : Int)) ∧ w.cell? ⟨e, 4, none⟩ = some (.int .u64 (s.cp : Int)) ∧ w.frozen? ⟨e, 3, none⟩ = false ∧ w.frozen? ⟨e, 4, none⟩ = false ∧ e < w.heap.size := by
  obtain ⟨rb, dn, rd, hb, _⟩ := h
  exact ⟨hb.cell 0, hb.cell 1, hb.cell 3, hb.cell 4, hb.frozen 3, hb.frozen 4, hb.lt⟩
/-- a look at a register -/
theorem RegAt.look (h : RegAt own c w rb rg) (k : Nat) (hk : k < 18446744073709551616) (kI : Int) (hkI : kI = (k : Int)) :
    (Instr.lookup 106 (.map (some rb)) (.int .u64 kI) false).run Tryz.prog w = .ok (.int .u64 (rg k : Int)) w := by
  obtain ⟨_, kv, hm, hkv⟩ := h
  have := hm.look keyU encU_inj Tryz.underlying106 (zeroU w) (keyU_mk k hk) false
  rw [if_neg (by decide), hkv k] at this
  rw [hkI]
  exact this
theorem EngAt.reg (h : EngAt own c w e mp way s) : ∃ rb, w.cell? ⟨e, 2, none⟩ = some (.map (some rb)) ∧ RegAt own c w rb s.rg := by
  obtain ⟨rb, dn, rd, hb, _, hr, _⟩ := h
  exact ⟨rb, hb.cell 2, hr⟩
theorem eng_src (h : EngAt own c w e mp way s) : Calls Tryz.prog 38 #[.pointer (some ⟨e, 0, none⟩)] w fun x w' => x = .returned (.int .u64 (s.rg 0 : Int)) ∧ w = w' := by
  obtain ⟨rb, h2, hr⟩ := h.reg
  have hl := hr.look 0 (by decide) 0 rfl
  have hlt := h.cells.2.2.2.2.2.2
  clear h hr
  go_enter Tryz.func38, Tryz.ntmps38
  go_wp2
  go_ret
  exact ⟨rfl, rfl⟩
theorem eng_dst (h : EngAt own c w e mp way s) : Calls Tryz.prog 39 #[.pointer (some ⟨e, 0, none⟩)] w fun x w' => x = .returned (.int .u64 (s.rg 8 : Int)) ∧ w = w' := by
  obtain ⟨rb, h2, hr⟩ := h.reg
  have hl := hr.look 8 (by decide) 8 rfl
  have hlt := h.cells.2.2.2.2.2.2
  clear h hr
  go_enter Tryz.func39, Tryz.ntmps39
  go_wp2
  go_ret
  exact ⟨rfl, rfl⟩
theorem eng_len (h : EngAt own c w e mp way s) : Calls Tryz.prog 41 #[.pointer (some ⟨e, 0, none⟩)] w fun x w' => x = .returned (.int .u64 (s.rg 16 : Int)) ∧ w = w' := by
  obtain ⟨rb, h2, hr⟩ := h.reg
  have hl := hr.look 16 (by decide) 16 rfl
  have hlt := h.cells.2.2.2.2.2.2
  clear h hr
  go_enter Tryz.func41, Tryz.ntmps41
  go_wp2
  go_ret
  exact ⟨rfl, rfl⟩
theorem eng_msi (h : EngAt own c w e mp way s) : Calls Tryz.prog 42 #[.pointer (some ⟨e, 0, none⟩)] w fun x w' => x = .returned (.int .u64 (s.rg 40 : Int)) ∧ w = w' := by
  obtain ⟨rb, h2, hr⟩ := h.reg
  have hl := hr.look 40 (by decide) 40 rfl
  have hlt := h.cells.2.2.2.2.2.2
  clear h hr
  go_enter Tryz.func42, Tryz.ntmps42
  go_wp2
  go_ret
  exact ⟨rfl, rfl⟩
theorem eng_data (h : EngAt own c w e mp way s) : Calls Tryz.prog 43 #[.pointer (some ⟨e, 0, none⟩)] w fun x w' => x = .returned (.int .u64 (s.rg 48 : Int)) ∧ w = w' := by
  obtain ⟨rb, h2, hr⟩ := h.reg
  have hl := hr.look 48 (by decide) 48 rfl
  have hlt := h.cells.2.2.2.2.2.2
  clear h hr
  go_enter Tryz.func43, Tryz.ntmps43
  go_wp2
  go_ret
  exact ⟨rfl, rfl⟩
theorem eng_control (w : World) : Calls Tryz.prog 62 #[.pointer (some ⟨e, 0, none⟩)] w fun x w' => x = .returned (.int .u64 0) ∧ w = w' := by
  go_enter Tryz.func62, Tryz.ntmps62
  go_wp2
  go_ret
  exact ⟨rfl, rfl⟩
theorem eng_status (h : EngAt own c w e mp way s) : Calls Tryz.prog 63 #[.pointer (some ⟨e, 0, none⟩)] w fun x w' => x = .returned (.int .u64 (s.st : Int)) ∧ w = w' := by
  obtain ⟨_, _, h3, _, _, _, hlt⟩ := h.cells
  clear h
  go_enter Tryz.func63, Tryz.ntmps63
  go_wp2
  go_ret
  exact ⟨rfl, rfl⟩
theorem eng_Busy (h : EngAt own c w e mp way s) : Calls Tryz.prog 13 #[.pointer (some ⟨e, 0, none⟩)] w fun x w' => x = .returned (.bool (decide (s.st = 1))) ∧ w = w' := by
  obtain ⟨_, _, h3, _, _, _, hlt⟩ := h.cells
  have hb : ((s.st : Int) == 1) = decide (s.st = 1) := by
    by_cases h : s.st = 1
    · rw [decide_eq_true h, h]; rfl
    · rw [decide_eq_false h]; simp; omega
  clear h
  go_enter Tryz.func13, Tryz.ntmps13
  go_wp2
  go_ret
  exact ⟨rfl, rfl⟩
theorem eng_fits (off : Nat) (hoff : off < 18446744073709551616) (size : Int) (hs0 : -9223372036854775808 ≤ size) (hs1 : size ≤ 9223372036854775807) (w : World) :
    Calls Tryz.prog 31 #[.int .u64 (off : Int), .int .i64 size] w fun x w' => x = .returned (.bool (fitsE off size)) ∧ w = w' := by
  by_cases h4 : size = 4
  · subst h4
    by_cases hm : (off : Int) % 4 = 0
    · have hm2 : ((off : Int) % 4 == 0) = true := by simpa using hm
      have hf : fitsE off 4 = decide ((off : Int) < 56) := by unfold fitsE; rw [hm2]; simp; omega
      rw [hf]
      clear hf
      go_enter Tryz.func31, Tryz.ntmps31
      go_wp2
      go_ret
      exact ⟨rfl, rfl⟩
    · have hm2 : ((off : Int) % 4 == 0) = false := by simpa using hm
      have hf : fitsE off 4 = false := by unfold fitsE; rw [hm2]; simp
      rw [hf]
      clear hf
      go_enter Tryz.func31, Tryz.ntmps31
      go_wp2
      go_ret
      exact ⟨rfl, rfl⟩
  · have h4b : (size == 4) = false := by simpa using h4
    by_cases h8 : size = 8
    · subst h8
      by_cases hm : (off : Int) % 8 = 0
      · have hm2 : ((off : Int) % 8 == 0) = true := by simpa using hm
        have hf : fitsE off 8 = decide ((off : Int) < 56) := by unfold fitsE; rw [hm2]; simp; omega
        rw [hf]
        clear hf
        go_enter Tryz.func31, Tryz.ntmps31
        go_wp2
        go_ret
        exact ⟨rfl, rfl⟩
      · have hm2 : ((off : Int) % 8 == 0) = false := by simpa using hm
        have hf : fitsE off 8 = false := by unfold fitsE; rw [hm2]; simp
        rw [hf]
        clear hf
        go_enter Tryz.func31, Tryz.ntmps31
        go_wp2
        go_ret
        exact ⟨rfl, rfl⟩
    · have h8b : (size == 8) = false := by simpa using h8
      have hf : fitsE off size = false := by unfold fitsE; rw [h4b, h8b]; rfl
      rw [hf]
      clear hf
      go_enter Tryz.func31, Tryz.ntmps31
      go_wp2
      go_ret
      exact ⟨rfl, rfl⟩
end
end Go.Proofs.YtonhlgfgbdiapaaGreat

/- The engine: command, set, Write. -/
namespace Go.Proofs.YtonhlgfgbdiapaaGreat
set_option linter.unusedVariables false
set_option linter.unusedSimpArgs false
open Go.RowKit Go.Maps
set_option maxRecDepth 100000

theorem and1_u (v : Nat) (hv : v < 18446744073709551616) : bits .and .u64 (v : Int) 1 = ((v % 2 : Nat) : Int) := by
  rw [show (1 : Int) = ((1 : Nat) : Int) from rfl, u64_and_nat _ _ hv (by decide), Nat.and_one_is_mod]
theorem and2_u (v : Nat) (hv : v < 18446744073709551616) : bits .and .u64 (v : Int) 2 = ((v / 2 % 2 * 2 : Nat) : Int) := by
  rw [show (2 : Int) = ((2 : Nat) : Int) from rfl, u64_and_nat _ _ hv (by decide)]
  have h1 : v &&& 2 ≤ 2 := Nat.and_le_right
  have h2 : (v &&& 2) % 4 = (v % 4 &&& 2 % 4) := by rw [show 4 = 2 ^ 2 from rfl, Nat.and_mod_two_pow]
  have key : ∀ x : Nat, x < 4 → (x &&& 2 % 4) = x / 2 % 2 * 2 := by decide
  have h3 := key (v % 4) (Nat.mod_lt _ (by decide))
  omega
theorem andNot7 (off : Nat) (h : off < 56) : bits .andNot .u64 (off : Int) 7 = ((off / 8 * 8 : Nat) : Int) := by
  have key : ∀ off : Nat, off < 56 → bits .andNot .u64 (off : Int) 7 = ((off / 8 * 8 : Nat) : Int) := by decide +kernel
  exact key off h
theorem and4_u (off : Nat) (h : off < 56) : bits .and .u64 (off : Int) 4 = ((off / 4 % 2 * 4 : Nat) : Int) := by
  have key : ∀ off : Nat, off < 56 → bits .and .u64 (off : Int) 4 = ((off / 4 % 2 * 4 : Nat) : Int) := by decide +kernel
  exact key off h
theorem or3_u (a b n : Nat) (ha : a < 18446744073709551616) (hb : b < 18446744073709551616) (hn : n < 18446744073709551616) :
    ((bits .or .u64 (bits .or .u64 (a : Int) (b : Int)) (n : Int)).tmod 8 == 0) = (decide (a % 8 = 0) && decide (b % 8 = 0) && decide (n % 8 = 0)) := by
  have h1 : a ||| b < 18446744073709551616 := Nat.or_lt_two_pow (n := 64) ha hb
  rw [u64_or_nat _ _ ha hb, u64_or_nat _ _ h1 hn, Int.tmod_eq_emod_of_nonneg (by omega)]
  have h2 : ((a ||| b) ||| n) % 8 = ((a % 8 ||| b % 8) ||| n % 8) := by
    rw [show 8 = 2 ^ 3 from rfl, Nat.or_mod_two_pow, Nat.or_mod_two_pow]
  have h3 : ((((a ||| b) ||| n : Nat) : Int) % 8 == 0) = (((a ||| b) ||| n) % 8 == 0) := by
    rw [Bool.eq_iff_iff]; simp; omega
  rw [h3, h2]
  have key : ∀ x : Nat, x < 8 → ∀ y : Nat, y < 8 → ∀ z : Nat, z < 8 → ((x ||| y) ||| z == 0) = (decide (x = 0) && decide (y = 0) && decide (z = 0)) := by decide +kernel
  exact key _ (Nat.mod_lt _ (by decide)) _ (Nat.mod_lt _ (by decide)) _ (Nat.mod_lt _ (by decide))
theorem orLo (old v : Nat) (ho : old < 18446744073709551616) : bits .or .u64 ((old : Int) / 4294967296 * 4294967296) ((v : Int) % 4294967296) = ((old / 4294967296 * 4294967296 + v % 4294967296 : Nat) : Int) := by
  have e1 : (old : Int) / 4294967296 * 4294967296 = ((old / 4294967296 * 4294967296 : Nat) : Int) := by omega
  have e2 : (v : Int) % 4294967296 = ((v % 4294967296 : Nat) : Int) := by omega
  rw [e1, e2, u64_or_nat _ _ (by omega) (by omega), nat_join 32 _ _ (by omega) (by omega)]
theorem orHi (old v : Nat) : bits .or .u64 ((old : Int) % 4294967296) (IntKind.u64.wrap ((v : Int) * 4294967296)) = ((old % 4294967296 + v % 4294967296 * 4294967296 : Nat) : Int) := by
  have e0 : IntKind.u64.wrap ((v : Int) * 4294967296) = (v : Int) * 4294967296 % 18446744073709551616 := by simp [IntKind.wrap, IntKind.bits, IntKind.signed]
  rw [e0]
  have e1 : (v : Int) * 4294967296 % 18446744073709551616 = ((v % 4294967296 * 4294967296 : Nat) : Int) := by omega
  have e2 : (old : Int) % 4294967296 = ((old % 4294967296 : Nat) : Int) := by omega
  rw [e1, e2, u64_or_nat _ _ (by omega) (by omega), Nat.or_comm, nat_join 32 _ _ (by omega) (by omega), Nat.add_comm]
section
variable {own own' : Nat → Nat} {c e mp rb b : Nat} {way rd : Value} {w w' : World} {s s' : Eg}
set_option maxHeartbeats 1500000 in
theorem eng_command (h : EngAt own c w e mp way s) (hok : EgOk s) (v : Nat) (hv : v < 18446744073709551616) :
    Calls Tryz.prog 32 #[.pointer (some ⟨e, 0, none⟩), .int .u64 (v : Int)] w fun x w' => x = .returned (.tuple #[]) ∧ Step (· = c) own w own w' ∧ EngAt own c w' e mp way (cmdE s v) := by
  obtain ⟨_, _, c3, c4, z3, z4, hlt⟩ := h.cells
  by_cases hs : s.st = 1
  · have hs1 : ((s.st : Int) == 1) = true := by rw [hs]; rfl
    by_cases h2 : v / 2 % 2 = 1
    · have hv2 : (bits .and .u64 (v : Int) 2 != 0) = true := by rw [and2_u v hv, h2]; rfl
      have hc : cmdE s v = { s with st := 0 } := by unfold cmdE; rw [if_pos hs, if_pos h2]
      rw [hc]
      have HF := Lib.hid (h.put (s' := { s with st := 0 }) 3 (.int .u64 0) (fun _ _ _ => rfl) rfl)
      clear h hok hs h2 hc
      go_enter Tryz.func32, Tryz.ntmps32
      go_wp2
      go_end0
      exact ⟨rfl, HF.out⟩
    · have hv2 : (bits .and .u64 (v : Int) 2 != 0) = false := by rw [and2_u v hv, show v / 2 % 2 = 0 by omega]; rfl
      have hc : cmdE s v = s := by unfold cmdE; rw [if_pos hs, if_neg h2]
      rw [hc]
      have HF := Lib.hid (And.intro (Step.refl (· = c) own w) h)
      clear h hok hs h2 hc
      go_enter Tryz.func32, Tryz.ntmps32
      go_wp2
      go_end0
      exact ⟨rfl, HF.out⟩
  · have hs1 : ((s.st : Int) == 1) = false := by simp; omega
    by_cases h1 : v % 2 = 1
    · have hv1 : (bits .and .u64 (v : Int) 1 != 0) = true := by rw [and1_u v hv, h1]; rfl
      have hp1 := h.put (s' := { s with st := 1 }) 3 (.int .u64 1) (fun _ _ _ => rfl) rfl
      have hp2 := hp1.2.put (s' := { s with st := 1, cp := 0 }) 4 (.int .u64 0) (fun _ _ _ => rfl) rfl
      have HL := Lib.hid (eng_len hp2.2)
      have HS := Lib.hid (eng_src hp2.2)
      have HD := Lib.hid (eng_dst hp2.2)
      have hor := or3_u (s.rg 0) (s.rg 8) (s.rg 16) (hok.rg 0) (hok.rg 8) (hok.rg 16)
      have hp3 := hp2.2.put (s' := { s with st := 3, cp := 0 }) 3 (.int .u64 3) (fun _ _ _ => rfl) rfl
      cases hb : badG s with
      | true =>
        have hc : cmdE s v = { s with st := 3, cp := 0 } := by unfold cmdE; rw [if_neg hs, if_pos h1, hb]; rfl
        rw [hc]
        have HF := Lib.hid (And.intro ((hp1.1.trans hp2.1).trans hp3.1) hp3.2)
        by_cases hn0 : s.rg 16 = 0
        · have n0 : ((s.rg 16 : Int) == 0) = true := by rw [hn0]; rfl
          clear h hok hs h1 hc hb hp1 hp2 hp3 hor hn0
          go_enter Tryz.func32, Tryz.ntmps32
          go_wp2_with fail
          ((with_reducible refine HL.out.mono ?_); rintro x wz ⟨rfl, rfl⟩)
          clear HL
          go_wp2
          go_end0
          exact ⟨rfl, HF.out⟩
        · have n0 : ((s.rg 16 : Int) == 0) = false := by simp; omega
          by_cases hn1 : 4096 < s.rg 16
          · have n1 : decide ((4096 : Int) < (s.rg 16 : Int)) = true := by simp; omega
            clear h hok hs h1 hc hb hp1 hp2 hp3 hor hn0 hn1
            go_enter Tryz.func32, Tryz.ntmps32
            go_wp2_with fail
            ((with_reducible refine HL.out.mono ?_); rintro x wz ⟨rfl, rfl⟩)
            clear HL
            go_wp2
            go_end0
            exact ⟨rfl, HF.out⟩
          · have n1 : decide ((4096 : Int) < (s.rg 16 : Int)) = false := by simp; omega
            have hor2 : ((bits .or .u64 (bits .or .u64 (s.rg 0 : Int) (s.rg 8 : Int)) (s.rg 16 : Int)).tmod 8 != 0) = true := by
              unfold bne; rw [hor]; unfold badG at hb; simp at hb ⊢; omega
            clear h hok hs h1 hc hb hp1 hp2 hp3 hor hn0 hn1
            go_enter Tryz.func32, Tryz.ntmps32
            go_wp2_with fail
            ((with_reducible refine HL.out.mono ?_); rintro x wz ⟨rfl, rfl⟩)
            clear HL
            go_wp2_with fail
            ((with_reducible refine HS.out.mono ?_); rintro x wz ⟨rfl, rfl⟩)
            clear HS
            go_wp2_with fail
            ((with_reducible refine HD.out.mono ?_); rintro x wz ⟨rfl, rfl⟩)
            clear HD
            go_wp2
            go_end0
            exact ⟨rfl, HF.out⟩
      | false =>
        have hc : cmdE s v = { s with st := 1, cp := 0 } := by unfold cmdE; rw [if_neg hs, if_pos h1, hb]; rfl
        rw [hc]
        have HF := Lib.hid (And.intro (hp1.1.trans hp2.1) hp2.2)
        have n0 : ((s.rg 16 : Int) == 0) = false := by unfold badG at hb; simp at hb ⊢; omega
        have n1 : decide ((4096 : Int) < (s.rg 16 : Int)) = false := by unfold badG at hb; simp at hb ⊢; omega
        have hor2 : ((bits .or .u64 (bits .or .u64 (s.rg 0 : Int) (s.rg 8 : Int)) (s.rg 16 : Int)).tmod 8 != 0) = false := by
          unfold bne; rw [hor]; unfold badG at hb; simp at hb ⊢; omega
        clear h hok hs h1 hc hb hp1 hp2 hp3 hor
        go_enter Tryz.func32, Tryz.ntmps32
        go_wp2_with fail
        ((with_reducible refine HL.out.mono ?_); rintro x wz ⟨rfl, rfl⟩)
        clear HL
        go_wp2_with fail
        ((with_reducible refine HS.out.mono ?_); rintro x wz ⟨rfl, rfl⟩)
        clear HS
        go_wp2_with fail
        ((with_reducible refine HD.out.mono ?_); rintro x wz ⟨rfl, rfl⟩)
        clear HD
        go_wp2
        go_end0
        exact ⟨rfl, HF.out⟩
    · have hv1 : (bits .and .u64 (v : Int) 1 != 0) = false := by rw [and1_u v hv, show v % 2 = 0 by omega]; rfl
      by_cases h2 : v / 2 % 2 = 1
      · have hv2 : (bits .and .u64 (v : Int) 2 != 0) = true := by rw [and2_u v hv, h2]; rfl
        have hc : cmdE s v = { s with st := 0 } := by unfold cmdE; rw [if_neg hs, if_neg h1, if_pos h2]
        rw [hc]
        have HF := Lib.hid (h.put (s' := { s with st := 0 }) 3 (.int .u64 0) (fun _ _ _ => rfl) rfl)
        clear h hok hs h1 h2 hc
        go_enter Tryz.func32, Tryz.ntmps32
        go_wp2
        go_end0
        exact ⟨rfl, HF.out⟩
      · have hv2 : (bits .and .u64 (v : Int) 2 != 0) = false := by rw [and2_u v hv, show v / 2 % 2 = 0 by omega]; rfl
        have hc : cmdE s v = s := by unfold cmdE; rw [if_neg hs, if_neg h1, if_neg h2]
        rw [hc]
        have HF := Lib.hid (And.intro (Step.refl (· = c) own w) h)
        clear h hok hs h1 h2 hc
        go_enter Tryz.func32, Tryz.ntmps32
        go_wp2
        go_end0
        exact ⟨rfl, HF.out⟩
/-- a register is stored -/
theorem EngAt.stored (h : EngAt own c w e mp way s) : ∃ rb kv, own rb = c ∧ w.cell? ⟨e, 2, none⟩ = some (.map (some rb)) ∧ MapB Tryz.prog 23 encU w rb kv ∧
    ∀ (k x : Nat) (w' : World) (y : Value), y = Value.int .u64 (x : Int) → MapB Tryz.prog 23 encU w' rb (kvPut kv k y) → Upd (· = rb) w w' → Step (· = c) own w own w' ∧ EngAt own c w' e mp way (putE s k x) := by
  obtain ⟨rb, dn, rd, hb, ho, ⟨hro, kv, hm, hk⟩, hd⟩ := h
  refine ⟨rb, kv, hro, hb.cell 2, hm, ?_⟩
  rintro k x w' y rfl hm' hU
  have hne : e ≠ rb := fun he => (hb.ne_map hm) he.symm
  refine ⟨⟨hU.mono (fun i _ h => by rw [h]; exact hro), fun _ _ => rfl⟩, rb, dn, rd, hb.upd hU hne, ho, ⟨hro, _, hm', fun k' => ?_⟩, ?_⟩
  · rw [kvGet_put]
    show _ = Value.int .u64 ((if k' = k then x else s.rg k' : Nat) : Int)
    by_cases hkk : k' = k
    · rw [if_pos hkk, if_pos hkk]; rfl
    · rw [if_neg hkk, if_neg hkk]; exact hk k'
  · rcases hd with h | ⟨h1, fb, h2, h3, hfo, hfm⟩
    · exact .inl h
    · exact .inr ⟨h1, fb, h2, h3, hfo, hfm.upd hU h3⟩
set_option maxHeartbeats 1500000 in
theorem eng_set (h : EngAt own c w e mp way s) (hok : EgOk s) (off : Nat) (hoff : off < 56) (size : Int) (hsz : size = 4 ∨ size = 8) (hmod : (off : Int) % size = 0) (v : Nat) (hv : v < 18446744073709551616) :
    Calls Tryz.prog 33 #[.pointer (some ⟨e, 0, none⟩), .int .u64 (off : Int), .int .i64 size, .int .u64 (v : Int)] w fun x w' => x = .returned (.tuple #[]) ∧ Step (· = c) own w own w' ∧ EngAt own c w' e mp way (putE s (off / 8 * 8) (setE (s.rg (off / 8 * 8)) off size v)) := by
  obtain ⟨_, _, c3, c4, z3, z4, hlt⟩ := h.cells
  obtain ⟨rb0, c2', hr⟩ := h.reg
  obtain ⟨rb, kv, hro, c2, hm, hst⟩ := h.stored
  obtain rfl : rb0 = rb := by rw [c2] at c2'; cases c2'; rfl
  have ha := andNot7 off hoff
  obtain ⟨k, hk⟩ : ∃ k, off / 8 * 8 = k := ⟨_, rfl⟩
  rw [hk] at ha ⊢
  have hk64 : k < 18446744073709551616 := by omega
  have hl := hr.look k hk64 (k : Int) rfl
  have hold := hok.rg k
  have HST := Lib.hid (And.intro hm hst)
  rcases hsz with rfl | rfl
  · by_cases h4 : off % 8 = 0
    · have h4b : (bits .and .u64 (off : Int) 4 == 0) = true := by rw [and4_u off hoff, show off / 4 % 2 = 0 by omega]; rfl
      obtain ⟨N, hN⟩ : ∃ N, setE (s.rg k) off 4 v = N := ⟨_, rfl⟩
      have hor : bits .or .u64 ((s.rg k : Int) / 4294967296 * 4294967296) ((v : Int) % 4294967296) = (N : Int) := by rw [← hN]; unfold setE; rw [if_neg (by decide), if_pos h4]; exact orLo _ _ hold
      clear h4
      clear h hr hst hm hok c2' hk hmod
      go_enter Tryz.func33, Tryz.ntmps33
      go_wp2_with ((with_reducible show wpList _ _ _ ((⟨none, _, _, _, _, _⟩ : Oper) :: _) _ _); refine wpList_storeB rfl _ _ _ _ rfl HST.out.1 keyU encU_inj Tryz.underlying106 rfl (a := k) rfl (keyU_mk k hk64) (.int .u64 (N : Int)) rfl ?_; intro w9 hM9 hU9)
      have HF := Lib.hid (HST.out.2 k N w9 _ rfl hM9 hU9)
      clear hM9 hU9 HST
      go_end0
      exact ⟨rfl, HF.out⟩
    · have h4b : (bits .and .u64 (off : Int) 4 == 0) = false := by rw [and4_u off hoff, show off / 4 % 2 = 1 by omega]; rfl
      obtain ⟨N, hN⟩ : ∃ N, setE (s.rg k) off 4 v = N := ⟨_, rfl⟩
      have hor : bits .or .u64 ((s.rg k : Int) % 4294967296) (IntKind.u64.wrap ((v : Int) * 4294967296)) = (N : Int) := by rw [← hN]; unfold setE; rw [if_neg (by decide), if_neg h4]; exact orHi _ _
      clear h4
      clear h hr hst hm hok c2' hk hmod
      go_enter Tryz.func33, Tryz.ntmps33
      go_wp2_with ((with_reducible show wpList _ _ _ ((⟨none, _, _, _, _, _⟩ : Oper) :: _) _ _); refine wpList_storeB rfl _ _ _ _ rfl HST.out.1 keyU encU_inj Tryz.underlying106 rfl (a := k) rfl (keyU_mk k hk64) (.int .u64 (N : Int)) rfl ?_; intro w9 hM9 hU9)
      have HF := Lib.hid (HST.out.2 k N w9 _ rfl hM9 hU9)
      clear hM9 hU9 HST
      go_end0
      exact ⟨rfl, HF.out⟩
  · rw [show setE (s.rg k) off 8 v = v from if_pos rfl]
    clear h hr hst hm hok c2' hk hmod
    go_enter Tryz.func33, Tryz.ntmps33
    go_wp2_with ((with_reducible show wpList _ _ _ ((⟨none, _, _, _, _, _⟩ : Oper) :: _) _ _); refine wpList_storeB rfl _ _ _ _ rfl HST.out.1 keyU encU_inj Tryz.underlying106 rfl (a := k) rfl (keyU_mk k hk64) (.int .u64 (v : Int)) rfl ?_; intro w9 hM9 hU9)
    have HF := Lib.hid (HST.out.2 k v w9 _ rfl hM9 hU9)
    clear hM9 hU9 HST
    go_end0
    exact ⟨rfl, HF.out⟩
/-- a write -/
theorem eng_Write (h : EngAt own c w e mp way s) (hok : EgOk s) (off : Nat) (hoff : off < 18446744073709551616) (size : Int) (hs0 : -9223372036854775808 ≤ size) (hs1 : size ≤ 9223372036854775807) (v : Nat) (hv : v < 18446744073709551616) :
    Calls Tryz.prog 11 #[.pointer (some ⟨e, 0, none⟩), .int .u64 (off : Int), .int .i64 size, .int .u64 (v : Int)] w fun x w' => x = .returned (.bool (fitsE off size)) ∧ Step (· = c) own w own w' ∧ EngAt own c w' e mp way (writeE s off size v) := by
  obtain ⟨_, _, c3, c4, z3, z4, hlt⟩ := h.cells
  have HFi := Lib.hid (eng_fits off hoff size hs0 hs1 w)
  cases hf : fitsE off size with
  | false =>
    rw [hf] at HFi
    rw [show writeE s off size v = s from by unfold writeE; rw [hf]; rfl]
    have HF := Lib.hid (And.intro (Step.refl (· = c) own w) h)
    clear h hok hf
    go_enter Tryz.func11, Tryz.ntmps11
    go_wp2_with fail
    ((with_reducible refine HFi.out.mono ?_); rintro x wz ⟨rfl, rfl⟩)
    clear HFi
    go_wp2
    go_ret
    exact ⟨rfl, HF.out⟩
  | true =>
    rw [hf] at HFi
    obtain ⟨hsz, hmod, hoff2⟩ : (size = 4 ∨ size = 8) ∧ (off : Int) % size = 0 ∧ off < 56 := by
      unfold fitsE at hf
      simp only [Bool.and_eq_true, Bool.or_eq_true, beq_iff_eq, decide_eq_true_eq] at hf
      exact ⟨hf.1.1, hf.1.2, hf.2⟩
    have ha := andNot7 off hoff2
    have hwr : writeE s off size v = if off / 8 * 8 = 24 then (if off = 24 then cmdE s v else s) else if off / 8 * 8 = 32 then s else if s.st = 1 then s else putE s (off / 8 * 8) (setE (s.rg (off / 8 * 8)) off size v) := by
      unfold writeE; rw [hf]; rfl
    rw [hwr]
    have hse := eng_set h hok off hoff2 size hsz hmod v hv
    have hcm := eng_command h hok v hv
    obtain ⟨k, hk⟩ : ∃ k, off / 8 * 8 = k := ⟨_, rfl⟩
    rw [hk] at ha hse ⊢
    by_cases hk24 : k = 24
    · rw [if_pos hk24]
      have k1 : ((k : Int) == 24) = true := by rw [hk24]; rfl
      by_cases ho24 : off = 24
      · rw [if_pos ho24]
        have k2 : ((off : Int) == 24) = true := by rw [ho24]; rfl
        have HC := Lib.hid hcm
        clear h hok hf hsz hmod hwr hse hcm hk hk24 ho24
        go_enter Tryz.func11, Tryz.ntmps11
        go_wp2_with fail
        ((with_reducible refine HFi.out.mono ?_); rintro x wz ⟨rfl, rfl⟩)
        clear HFi
        go_wp2_with fail
        ((with_reducible refine HC.out.mono ?_); rintro x w1 ⟨rfl, h1⟩)
        have HF := Lib.hid h1
        clear HC h1
        go_wp2
        go_ret
        exact ⟨rfl, HF.out⟩
      · rw [if_neg ho24]
        have k2 : ((off : Int) == 24) = false := by simp; omega
        have HF := Lib.hid (And.intro (Step.refl (· = c) own w) h)
        clear h hok hf hsz hmod hwr hse hcm hk hk24 ho24
        go_enter Tryz.func11, Tryz.ntmps11
        go_wp2_with fail
        ((with_reducible refine HFi.out.mono ?_); rintro x wz ⟨rfl, rfl⟩)
        clear HFi
        go_wp2
        go_ret
        exact ⟨rfl, HF.out⟩
    · rw [if_neg hk24]
      have k1 : ((k : Int) == 24) = false := by simp; omega
      by_cases hk32 : k = 32
      · rw [if_pos hk32]
        have k2 : ((k : Int) == 32) = true := by rw [hk32]; rfl
        have HF := Lib.hid (And.intro (Step.refl (· = c) own w) h)
        clear h hok hf hsz hmod hwr hse hcm hk hk24 hk32
        go_enter Tryz.func11, Tryz.ntmps11
        go_wp2_with fail
        ((with_reducible refine HFi.out.mono ?_); rintro x wz ⟨rfl, rfl⟩)
        clear HFi
        go_wp2
        go_ret
        exact ⟨rfl, HF.out⟩
      · rw [if_neg hk32]
        have k2 : ((k : Int) == 32) = false := by simp; omega
        by_cases hs : s.st = 1
        · rw [if_pos hs]
          have k3 : ((s.st : Int) == 1) = true := by rw [hs]; rfl
          have k4 : ((s.st : Int) != 1) = false := by rw [hs]; rfl
          have HF := Lib.hid (And.intro (Step.refl (· = c) own w) h)
          clear h hok hf hsz hmod hwr hse hcm hk hk24 hk32 hs
          go_enter Tryz.func11, Tryz.ntmps11
          go_wp2_with fail
          ((with_reducible refine HFi.out.mono ?_); rintro x wz ⟨rfl, rfl⟩)
          clear HFi
          go_wp2
          go_ret
          exact ⟨rfl, HF.out⟩
        · rw [if_neg hs]
          have k3 : ((s.st : Int) == 1) = false := by simp; omega
          have k4 : ((s.st : Int) != 1) = true := by simp; omega
          have HC := Lib.hid hse
          clear h hok hf hsz hmod hwr hse hcm hk hk24 hk32 hs
          go_enter Tryz.func11, Tryz.ntmps11
          go_wp2_with fail
          ((with_reducible refine HFi.out.mono ?_); rintro x wz ⟨rfl, rfl⟩)
          clear HFi
          go_wp2_with fail
          ((with_reducible refine HC.out.mono ?_); rintro x w1 ⟨rfl, h1⟩)
          have HF := Lib.hid h1
          clear HC h1
          go_wp2
          go_ret
          exact ⟨rfl, HF.out⟩
end
end Go.Proofs.YtonhlgfgbdiapaaGreat

/- sync.Once and the atomics, one goroutine (after the kit's worked proof 'Lazy'). -/
namespace Go.Proofs.YtonhlgfgbdiapaaGreat
set_option linter.unusedVariables false
open Go.RowKit
set_option maxRecDepth 100000

theorem race_disable (w : World) : (callFunc 135 #[]).run Tryz.prog w = .ok (.value (.tuple #[])) w := run_call_mark0 Tryz.func135 (by kernel_rfl) (by kernel_rfl) (by kernel_rfl) .disable (by kernel_rfl) w
theorem race_enable (w : World) : (callFunc 137 #[]).run Tryz.prog w = .ok (.value (.tuple #[])) w := run_call_mark0 Tryz.func137 (by kernel_rfl) (by kernel_rfl) (by kernel_rfl) .enable (by kernel_rfl) w
theorem race_acquire (a : Addr) (w : World) : (callFunc 138 #[.pointer (some a)]).run Tryz.prog w = .ok (.value (.tuple #[])) w := run_call_marked Tryz.func138 (by kernel_rfl) (by kernel_rfl) (by kernel_rfl) .acquire (by kernel_rfl) a w
theorem race_release (a : Addr) (w : World) : (callFunc 140 #[.pointer (some a)]).run Tryz.prog w = .ok (.value (.tuple #[])) w := run_call_marked Tryz.func140 (by kernel_rfl) (by kernel_rfl) (by kernel_rfl) .releaseMerge (by kernel_rfl) a w

theorem store_deferred (a : Addr) (x : Value) (u : FrameMode) (w : World) (hc : w.cell? a = some x) (hz : w.frozen? a = false) :
    CallsD Tryz.prog 116 #[.pointer (some a), .bool true] u w fun e u' w' => u' = u ∧ (e = .returned (.tuple #[]) ∧ w' = w.drew.setCell a (.int .u32 1)) := by
  have hc' : w.drew.cell? a = some x := by go_simp
  have hz' : w.drew.frozen? a = false := by go_simp
  have hst := run_call_store (P := Tryz.prog) Tryz.func132 (by kernel_rfl) (by kernel_rfl) (by kernel_rfl) (by kernel_rfl) (k := .u32) (y := 1) hc' hz'
  go_enter_d Tryz.func116, Tryz.ntmps116
  go_wp2
  go_region_calls
  all_goals (go_end0; exact ⟨rfl, rfl⟩)

theorem unlock_deferred (a : Addr) (u : FrameMode) (w : World) (hc : w.cell? a = some (.int .i32 1)) (hz : w.frozen? a = false) :
    CallsD Tryz.prog 115 #[.pointer (some a)] u w fun e u' w' => u' = u ∧ (e = .returned (.tuple #[]) ∧ w' = w.setCell a (.int .i32 0)) := by
  have hd := race_disable
  have he := race_enable
  have hr := race_release
  have hadd := run_call_add (P := Tryz.prog) Tryz.func141 (by kernel_rfl) (by kernel_rfl) (by kernel_rfl) .i32 (by kernel_rfl) (y := -1) (s := 0) hc hz (by simp [go_sem]; rfl)
  have hcv := run_convert_to_unsafe (P := Tryz.prog) (src := 209) (dst := 213) Tryz.underlying209 Tryz.underlying213 (by kernel_rfl) hc
  go_enter_d Tryz.func115, Tryz.ntmps115
  go_wp2
  go_end0
  go_wp2
  go_end0
  exact ⟨rfl, rfl⟩

theorem lock_free (a : Addr) (w : World) (hc : w.cell? a = some (.int .i32 0)) (hz : w.frozen? a = false) :
    Calls Tryz.prog 114 #[.pointer (some a)] w fun e w' => e = .returned (.tuple #[]) ∧ w' = w.setCell a (.int .i32 1) := by
  have hd := race_disable
  have he := race_enable
  have ha := race_acquire
  have hcas := run_call_cas_hit (P := Tryz.prog) Tryz.func136 (by kernel_rfl) (by kernel_rfl) (by kernel_rfl) .i32 (by kernel_rfl) (y := 1) hc hz
  have hc' : (w.setCell a (.int .i32 1)).cell? a = some (.int .i32 1) := World.cell?_setCell_same w a _ hc
  have hcv := run_convert_to_unsafe (P := Tryz.prog) (src := 209) (dst := 213) Tryz.underlying209 Tryz.underlying213 (by kernel_rfl) hc'
  go_enter Tryz.func114, Tryz.ntmps114
  go_wp2
  first | go_end0 | (simp only [Exit.inBlock, Exit.then]; refine bodyPost_ret (results_none rfl _ _ _) rfl ?_) | refine bodyPost_ret (results_none rfl _ _ _) rfl ?_
  go_wp2
  go_end0
  exact ⟨rfl, rfl⟩
end Go.Proofs.YtonhlgfgbdiapaaGreat

/- The engine: its reads, made once; Read; Flat. -/
namespace Go.Proofs.YtonhlgfgbdiapaaGreat
set_option linter.unusedVariables false
set_option linter.unusedSimpArgs false
open Go.RowKit Go.Maps
set_option maxRecDepth 100000

theorem wpList_insU {ops : Array Oper} {rest : List Oper} {o : Oper} {act : Act} {Q : Exit → Act → World → Prop} {w w0 : World} {fb lb : Nat} {x : Value} {kv : List (Nat × Value)} (hg : o.guard = none) (m k v : Operand) (t et : TypeId) (hop : o.op = Op.insert t m k v)
    (h : MapB Tryz.prog 23 encU w fb kv) (ht : Tryz.prog.underlying t = some (.map 23 et)) (hU : Upd (· = fb) w0 w) (hm : act.eval m = .map (some fb)) {a : Nat} (ha : a < 18446744073709551616) (hx : act.eval k = encU a) (val : Value) (hv : act.eval v = val)
    (hlt : lb < w0.heap.size ∧ lb ≠ fb) (hlb : w0.cell? ⟨lb, 0, none⟩ = some x)
    (hK : ∀ w', MapB Tryz.prog 23 encU w' fb (kvPut kv a val) → Upd (· = fb) w0 w' → w'.cell? ⟨lb, 0, none⟩ = some x → wpList Tryz.prog ops Q rest (act.put o.dst undef) w') : wpList Tryz.prog ops Q (o :: rest) act w := by
  refine wpList_plain hg fun K' hK' => ?_
  obtain ⟨w', hrun, r1, r2⟩ := h.store keyU encU_inj ht (keyU_mk a ha) val
  have r3 := hU.trans r2
  unfold Oper.wp
  simp [execOp, hop, hm, hx, hv, hrun, Result.andThen]
  exact hK' _ _ (hK w' r1 r3 ((r3.cell (p := ⟨lb, 0, none⟩) hlt.1 hlt.2).trans hlb))
/-- behind the Once's first run -/
def onceE (w : World) (e fb : Nat) (w' : World) : Prop := ∃ wm, Upd (· = fb) ((w.setCell ⟨e, 6, none⟩ (.int .i32 1)).alloc (.map #[] 0)) wm ∧ MapB Tryz.prog 23 encU wm fb (rdsL e) ∧ w' = (((wm.setCell ⟨e, 8, none⟩ (.map (some fb))).drew.setCell ⟨e, 5, none⟩ (.int .u32 1)).setCell ⟨e, 6, none⟩ (.int .i32 0))
set_option maxHeartbeats 1600000 in
/-- what is done once -/
theorem eng_made (e lb : Nat) (hpb : lb ≠ e) (w : World) (hp : w.cell? ⟨lb, 0, none⟩ = some (.pointer (some ⟨e, 0, none⟩))) (hpl : lb < w.heap.size) (hlt : e < w.heap.size)
    (h8 : w.cell? ⟨e, 8, none⟩ = some (.map none)) (f8 : w.frozen? ⟨e, 8, none⟩ = false) :
    Calls Tryz.prog 61 #[.pointer (some ⟨lb, 0, none⟩)] w fun x w' => x = .returned (.tuple #[]) ∧ ∃ wm, Upd (· = w.heap.size) (w.alloc (.map #[] 0)) wm ∧ MapB Tryz.prog 23 encU wm w.heap.size (rdsL e) ∧ w' = wm.setCell ⟨e, 8, none⟩ (.map (some w.heap.size)) := by
  have hmm := @run_makeMap Tryz.prog
  have hM := MapB.made w Tryz.prog 23 encU
  have hsz1 : (w.alloc (.map #[] 0)).heap.size = w.heap.size + 1 := by rw [World.size_alloc]
  have k0 : (w.alloc (.map #[] 0)).cell? ⟨lb, 0, none⟩ = some (.pointer (some ⟨e, 0, none⟩)) := by go_simp
  have k8 : (w.alloc (.map #[] 0)).cell? ⟨e, 8, none⟩ = some (.map none) := by go_simp
  have z8 : (w.alloc (.map #[] 0)).frozen? ⟨e, 8, none⟩ = false := by go_simp
  obtain ⟨w1, hw1⟩ : ∃ w1, w.alloc (.map #[] 0) = w1 := ⟨_, rfl⟩
  rw [hw1] at hM hsz1 k0 k8 z8 ⊢
  obtain ⟨fb, hfb⟩ : ∃ fb, w.heap.size = fb := ⟨_, rfl⟩
  rw [hfb] at hM hpl hlt hsz1 ⊢
  have hlb : lb < w1.heap.size ∧ lb ≠ fb := by omega
  have hU : Upd (· = fb) w1 w1 := Upd.refl _ _
  have HK := Lib.hid (And.intro k8 z8)
  have kL := k0
  clear k8 z8
  go_enter Tryz.func61, Tryz.ntmps61
  go_wp2_with (first | ((with_reducible show wpList _ _ _ ((⟨none, _, _, _, _, _⟩ : Oper) :: _) _ _); refine wpList_insU rfl _ _ _ _ _ rfl hM Tryz.underlying121 hU rfl (a := 0) (by decide) rfl (bmE 38 e) rfl hlb k0 ?_; clear hM hU kL; intro w9 hM hU kL) | ((with_reducible show wpList _ _ _ ((⟨none, _, _, _, _, _⟩ : Oper) :: _) _ _); refine wpList_insU rfl _ _ _ _ _ rfl hM Tryz.underlying121 hU rfl (a := 8) (by decide) rfl (bmE 39 e) rfl hlb k0 ?_; clear hM hU kL; intro w9 hM hU kL) | ((with_reducible show wpList _ _ _ ((⟨none, _, _, _, _, _⟩ : Oper) :: _) _ _); refine wpList_insU rfl _ _ _ _ _ rfl hM Tryz.underlying121 hU rfl (a := 16) (by decide) rfl (bmE 41 e) rfl hlb k0 ?_; clear hM hU kL; intro w9 hM hU kL) | ((with_reducible show wpList _ _ _ ((⟨none, _, _, _, _, _⟩ : Oper) :: _) _ _); refine wpList_insU rfl _ _ _ _ _ rfl hM Tryz.underlying121 hU rfl (a := 24) (by decide) rfl (bmE 62 e) rfl hlb k0 ?_; clear hM hU kL; intro w9 hM hU kL) | ((with_reducible show wpList _ _ _ ((⟨none, _, _, _, _, _⟩ : Oper) :: _) _ _); refine wpList_insU rfl _ _ _ _ _ rfl hM Tryz.underlying121 hU rfl (a := 32) (by decide) rfl (bmE 63 e) rfl hlb k0 ?_; clear hM hU kL; intro w9 hM hU kL) | ((with_reducible show wpList _ _ _ ((⟨none, _, _, _, _, _⟩ : Oper) :: _) _ _); refine wpList_insU rfl _ _ _ _ _ rfl hM Tryz.underlying121 hU rfl (a := 40) (by decide) rfl (bmE 42 e) rfl hlb k0 ?_; clear hM hU kL; intro w9 hM hU kL) | ((with_reducible show wpList _ _ _ ((⟨none, _, _, _, _, _⟩ : Oper) :: _) _ _); refine wpList_insU rfl _ _ _ _ _ rfl hM Tryz.underlying121 hU rfl (a := 48) (by decide) rfl (bmE 43 e) rfl hlb k0 ?_; clear hM hU kL; intro w9 hM hU kL; have g8 := (hU.cell (p := ⟨e, 8, none⟩) (show e < w1.heap.size by omega) (show e ≠ fb by omega)).trans HK.out.1; have y8 : w9.frozen? ⟨e, 8, none⟩ = false := (World.frozen?_of_block (hU.block e (by omega) (show e ≠ fb by omega))).trans HK.out.2; have HMF := Lib.hid (show MapB Tryz.prog 23 encU w9 fb (rdsL e) from hM); clear hM))
  go_end0
  exact ⟨rfl, w9, hU, HMF.out, rfl⟩
set_option maxHeartbeats 1600000 in
theorem eonce_slow (e lb : Nat) (hpb : lb ≠ e) (w : World) (hp : w.cell? ⟨lb, 0, none⟩ = some (.pointer (some ⟨e, 0, none⟩))) (hpl : lb < w.heap.size) (hlt : e < w.heap.size)
    (h5 : w.cell? ⟨e, 5, none⟩ = some (.int .u32 0)) (h6 : w.cell? ⟨e, 6, none⟩ = some (.int .i32 0)) (h8 : w.cell? ⟨e, 8, none⟩ = some (.map none))
    (f5 : w.frozen? ⟨e, 5, none⟩ = false) (f6 : w.frozen? ⟨e, 6, none⟩ = false) (f8 : w.frozen? ⟨e, 8, none⟩ = false) :
    Calls Tryz.prog 97 #[.pointer (some ⟨e, 5, none⟩), .func (.func 61) #[] #[.pointer (some ⟨lb, 0, none⟩)]] w fun x w' => x = .returned (.tuple #[]) ∧ onceE w e w.heap.size w' := by
  have hl := run_call_load (P := Tryz.prog) Tryz.func113 (by kernel_rfl) (by kernel_rfl) (by kernel_rfl) .u32 (by kernel_rfl) (w := w.setCell ⟨e, 6, none⟩ (.int .i32 1)) (a := ⟨e, 5, none⟩) (x := 0) ((World.cell?_setCell_other _ ⟨e, 6, none⟩ ⟨e, 5, none⟩ _ (by simp)).trans h5)
  have hnot : ∀ (x : Bool) (w : World), (Op.unary .not (.bool x)).run Tryz.prog w = .ok (.bool (!x)) w := fun _ _ => rfl
  have hsz0 : (w.setCell ⟨e, 6, none⟩ (.int .i32 1)).heap.size = w.heap.size := by simp [World.setCell]
  have hC := eng_made e lb hpb (w.setCell ⟨e, 6, none⟩ (.int .i32 1)) (by go_simp) (by rw [hsz0]; exact hpl) (by rw [hsz0]; exact hlt) (by go_simp) (by go_simp)
  rw [hsz0] at hC
  have k5 : ((w.setCell ⟨e, 6, none⟩ (.int .i32 1)).alloc (.map #[] 0)).cell? ⟨e, 5, none⟩ = some (.int .u32 0) := by go_simp
  have k6 : ((w.setCell ⟨e, 6, none⟩ (.int .i32 1)).alloc (.map #[] 0)).cell? ⟨e, 6, none⟩ = some (.int .i32 1) := by go_simp
  have z5 : ((w.setCell ⟨e, 6, none⟩ (.int .i32 1)).alloc (.map #[] 0)).frozen? ⟨e, 5, none⟩ = false := by go_simp
  have z6 : ((w.setCell ⟨e, 6, none⟩ (.int .i32 1)).alloc (.map #[] 0)).frozen? ⟨e, 6, none⟩ = false := by go_simp
  have hsz1 : ((w.setCell ⟨e, 6, none⟩ (.int .i32 1)).alloc (.map #[] 0)).heap.size = w.heap.size + 1 := by rw [World.size_alloc, hsz0]
  have HK := Lib.hid (And.intro hC (And.intro (And.intro k5 k6) (And.intro (And.intro z5 z6) hsz1)))
  have hL := fun (w : World) (hc : w.cell? ⟨e, 6, none⟩ = some (.int .i32 0)) (hz : w.frozen? ⟨e, 6, none⟩ = false) => lock_free ⟨e, 6, none⟩ w hc hz
  clear hC k5 k6 z5 z6 hsz1
  go_enter_defers Tryz.func97, Tryz.ntmps97
  go_wp2_with (go_at_call 114; refine (lock_free ⟨e, 6, none⟩ _ (by go_simp) (by go_simp)).mono ?_; rintro x w' ⟨rfl, rfl⟩)
  go_wp2_with (first | (go_at_call 96; go_in) | (go_at_call 61; refine HK.out.1.mono ?_; rintro x w' ⟨rfl, wm, hU, hM, rfl⟩))
  have hle := HK.out.2.2.2
  have k5 := (hU.cell (p := ⟨e, 5, none⟩) (show e < Array.size (World.heap _) by rw [hle]; omega) (show e ≠ w.heap.size by omega)).trans HK.out.2.1.1
  have k6 := (hU.cell (p := ⟨e, 6, none⟩) (show e < Array.size (World.heap _) by rw [hle]; omega) (show e ≠ w.heap.size by omega)).trans HK.out.2.1.2
  have z5 : wm.frozen? ⟨e, 5, none⟩ = false := (World.frozen?_of_block (hU.block e (by rw [hle]; omega) (show e ≠ w.heap.size by omega))).trans HK.out.2.2.1.1
  have z6 : wm.frozen? ⟨e, 6, none⟩ = false := (World.frozen?_of_block (hU.block e (by rw [hle]; omega) (show e ≠ w.heap.size by omega))).trans HK.out.2.2.1.2
  have HF := Lib.hid (And.intro hU hM)
  clear hU hM HK hle hL
  generalize w.heap.size = fb at *
  go_wp2
  refine leaves_cons (f := 116) (args := #[.pointer (some ⟨e, 5, none⟩), .bool true]) (by simp) (by simp [go_sem]) ?_
  refine (store_deferred ⟨e, 5, none⟩ (.int .u32 0) .returning _ (by go_simp) (by go_simp)).mono ?_
  rintro x u' w'' ⟨rfl, rfl, rfl⟩
  refine leaves_cons (f := 115) (args := #[.pointer (some ⟨e, 6, none⟩)]) (by simp [settle]) (by simp [go_sem]) ?_
  refine (unlock_deferred ⟨e, 6, none⟩ _ _ (by go_simp) (by go_simp)).mono ?_
  rintro x u' w'' ⟨rfl, rfl, rfl⟩
  simp [Leaves, settle, results]
  exact ⟨wm, HF.out.1, HF.out.2, rfl⟩
set_option maxHeartbeats 1600000 in
theorem eonce_first (e lb : Nat) (hpb : lb ≠ e) (w : World) (hp : w.cell? ⟨lb, 0, none⟩ = some (.pointer (some ⟨e, 0, none⟩))) (hpl : lb < w.heap.size) (hlt : e < w.heap.size)
    (h5 : w.cell? ⟨e, 5, none⟩ = some (.int .u32 0)) (h6 : w.cell? ⟨e, 6, none⟩ = some (.int .i32 0)) (h8 : w.cell? ⟨e, 8, none⟩ = some (.map none))
    (f5 : w.frozen? ⟨e, 5, none⟩ = false) (f6 : w.frozen? ⟨e, 6, none⟩ = false) (f8 : w.frozen? ⟨e, 8, none⟩ = false) :
    Calls Tryz.prog 60 #[.pointer (some ⟨e, 5, none⟩), .func (.func 61) #[] #[.pointer (some ⟨lb, 0, none⟩)]] w fun x w' => x = .returned (.tuple #[]) ∧ onceE w e w.heap.size w' := by
  have hl := run_call_load (P := Tryz.prog) Tryz.func113 (by kernel_rfl) (by kernel_rfl) (by kernel_rfl) .u32 (by kernel_rfl) h5
  have hnot : ∀ (x : Bool) (w : World), (Op.unary .not (.bool x)).run Tryz.prog w = .ok (.bool (!x)) w := fun _ _ => rfl
  have HS := Lib.hid (eonce_slow e lb hpb w hp hpl hlt h5 h6 h8 f5 f6 f8)
  go_enter Tryz.func60, Tryz.ntmps60
  go_wp2_with (first | (go_at_call 97; refine HS.out.mono ?_; rintro x w' ⟨rfl, hO⟩) | (go_at_call 96; go_in))
  go_end0
  exact ⟨rfl, hO⟩
theorem eonce_done (a : Addr) (d : Int) (hd : ¬ d = 0) (fv : Value) (w : World) (h0 : w.cell? a = some (.int .u32 d)) :
    Calls Tryz.prog 60 #[.pointer (some a), fv] w fun e w' => e = .returned (.tuple #[]) ∧ w' = w := by
  have hl := run_call_load (P := Tryz.prog) Tryz.func113 (by kernel_rfl) (by kernel_rfl) (by kernel_rfl) .u32 (by kernel_rfl) h0
  have hnot : ∀ (x : Bool) (w : World), (Op.unary .not (.bool x)).run Tryz.prog w = .ok (.bool (!x)) w := fun _ _ => rfl
  have hd' : (d != 0) = true := by simp [hd]
  go_enter Tryz.func60, Tryz.ntmps60
  go_wp2
  go_end0
  exact ⟨rfl, rfl⟩
section
variable {own own' : Nat → Nat} {c e mp rb b : Nat} {way rd : Value} {w w' : World} {s s' : Eg}
theorem zeroF (w : World) : (zeroValue 126).run Tryz.prog w = .ok .nilFunc w := by kernel_rfl
set_option maxHeartbeats 1600000 in
theorem eng_register (h : EngAt own c w e mp way s) (off : Nat) (hoff : off < 56) :
    Calls Tryz.prog 34 #[.pointer (some ⟨e, 0, none⟩), .int .u64 (off : Int)] w fun x w' => x = .returned ((kvGet (rdsL e) (off / 8 * 8)).getD .nilFunc) ∧ ∃ own', Step (· = c) own w own' w' ∧ EngAt own' c w' e mp way s := by
  have ha := andNot7 off hoff
  obtain ⟨k, hk⟩ : ∃ k, off / 8 * 8 = k := ⟨_, rfl⟩
  rw [hk] at ha ⊢
  have hk64 : k < 18446744073709551616 := by omega
  obtain ⟨V, hV⟩ : ∃ V, (kvGet (rdsL e) k).getD .nilFunc = V := ⟨_, rfl⟩
  rw [hV]
  have HV := Lib.hid hV
  clear hV
  obtain ⟨rb, dn, rd, hb, ho, hr, hd⟩ := h
  have hlt := hb.lt
  have hne : w.heap.size ≠ e := by omega
  have hst : Step (· = c) own w (ext own w c) (w.alloc (.cells #[.pointer (some ⟨e, 0, none⟩)] 42)) := ⟨(Upd.refl _ _).alloc _, fun b hb => ext_old _ _ _ hb⟩
  have hstF : Step (fun _ => False) own w (ext own w c) (w.alloc (.cells #[.pointer (some ⟨e, 0, none⟩)] 42)) := ⟨(Upd.refl _ _).alloc _, fun b hb => ext_old _ _ _ hb⟩
  obtain ⟨hb1, ho1⟩ := hstF.blk hb ho (fun h => h)
  have hr1 := hr.step hstF (fun h => h)
  have hd1 := hd.step hstF (fun h => h)
  have hsz : (w.alloc (.cells #[.pointer (some ⟨e, 0, none⟩)] 42)).heap.size = w.heap.size + 1 := World.size_alloc _ _
  rcases hd1 with ⟨rfl, rfl⟩ | ⟨rfl, fb, rfl, hfr, hfo, hfm⟩
  · have hO := eonce_first e w.heap.size hne (w.alloc (.cells #[.pointer (some ⟨e, 0, none⟩)] 42)) ((Blk.new w _ _).cell 0) (by rw [hsz]; omega) hb1.lt (hb1.cell 5) (hb1.cell 6) (hb1.cell 8) (hb1.frozen 5) (hb1.frozen 6) (hb1.frozen 8)
    have HO := Lib.hid hO
    have HK := Lib.hid (And.intro (And.intro hst ho1) (And.intro hb1 (And.intro hr1 (And.intro hsz hlt))))
    clear hO hst hstF hb hb1 ho ho1 hr hr1 hd hsz
    go_enter Tryz.func34, Tryz.ntmps34
    go_wp2_with fail
    generalize hw1 : w.alloc (.cells #[.pointer (some ⟨e, 0, none⟩)] 42) = w1 at *
    refine HO.out.mono ?_
    rintro x w2 ⟨rfl, wm, hU, hM, rfl⟩
    have hb1 := HK.out.2.1
    have hsz1 := HK.out.2.2.2.1
    have hfb : w1.heap.size = w.heap.size + 1 := hsz1
    have hmu := hb1.set_ 6 (.int .i32 1)
    have hszA : (w1.setCell ⟨e, 6, none⟩ (.int .i32 1)).heap.size = w1.heap.size := by simp [World.setCell]
    have hal := Blk.upd hmu ((Upd.refl (fun _ => False) _).alloc (.map #[] 0)) (fun h => h)
    have hbm := hal.upd hU (show ¬ (e = w1.heap.size) by omega)
    have hb8 := hbm.set_ 8 (.map (some w1.heap.size))
    have hb8d : Blk (wm.setCell ⟨e, 8, none⟩ (.map (some w1.heap.size))).drew e 123 _ := hb8
    have hb5 := hb8d.set_ 5 (.int .u32 1)
    have hb6 := hb5.set_ 6 (.int .i32 0)
    have hne2 : w1.heap.size ≠ e := by omega
    have hUall : Upd (fun b => b = e ∨ b = w1.heap.size) w1 ((((wm.setCell ⟨e, 8, none⟩ (.map (some w1.heap.size))).drew).setCell ⟨e, 5, none⟩ (.int .u32 1)).setCell ⟨e, 6, none⟩ (.int .i32 0)) := by
      refine Upd.setCell (p := ⟨e, 6, none⟩) (Upd.setCell (p := ⟨e, 5, none⟩) (Upd.drew (Upd.setCell (p := ⟨e, 8, none⟩) ?_ (.inl (.inl rfl)) _)) (.inl (.inl rfl)) _) (.inl (.inl rfl)) _
      exact (((Upd.refl (fun b => b = e ∨ b = w1.heap.size) w1).setCell (p := ⟨e, 6, none⟩) (.inl (.inl rfl)) _).alloc _).trans' hU (fun i _ h => .inr h)
    have hMf : MapB Tryz.prog 23 encU ((((wm.setCell ⟨e, 8, none⟩ (.map (some w1.heap.size))).drew).setCell ⟨e, 5, none⟩ (.int .u32 1)).setCell ⟨e, 6, none⟩ (.int .i32 0)) w1.heap.size (rdsL e) := by
      have hUU : Upd (· = e) wm ((((wm.setCell ⟨e, 8, none⟩ (.map (some w1.heap.size))).drew).setCell ⟨e, 5, none⟩ (.int .u32 1)).setCell ⟨e, 6, none⟩ (.int .i32 0)) :=
        Upd.setCell (p := ⟨e, 6, none⟩) (Upd.setCell (p := ⟨e, 5, none⟩) (Upd.drew (Upd.setCell (p := ⟨e, 8, none⟩) (Upd.refl (· = e) wm) (.inl rfl) _)) (.inl rfl) _) (.inl rfl) _
      exact hM.upd hUU hne2
    generalize ((((wm.setCell ⟨e, 8, none⟩ (.map (some w1.heap.size))).drew).setCell ⟨e, 5, none⟩ (.int .u32 1)).setCell ⟨e, 6, none⟩ (.int .i32 0)) = w2 at *
    have hS2 : Step (· = c) own w (ext (ext own w c) w1 c) w2 := by
      refine HK.out.1.1.trans ⟨hUall.mono (fun i hi h => ?_), fun b hb => ext_old _ _ _ hb⟩
      rcases h with rfl | rfl
      · exact HK.out.1.2
      · exact absurd hi (by omega)
    have hbF : Blk w2 e 123 (egC mp way rb s.st s.cp 1 (.map (some w1.heap.size))) := hb6
    have hoF : ext (ext own w c) w1 c e = c := (ext_old _ _ _ hb1.lt).trans HK.out.1.2
    have hrF : RegAt (ext (ext own w c) w1 c) c w2 rb s.rg := by
      obtain ⟨hro, kv, hm, hkv⟩ := HK.out.2.2.1
      exact ⟨(ext_old _ _ _ hm.lt).trans hro, kv, hm.upd hUall (fun h => by rcases h with h | h; exact (hb1.ne_map hm) h; have := hm.lt; omega), hkv⟩
    have hfr : w1.heap.size ≠ rb := by
      obtain ⟨_, kv, hm, _⟩ := HK.out.2.2.1
      have := hm.lt; omega
    have hE : EngAt (ext (ext own w c) w1 c) c w2 e mp way s := ⟨rb, 1, _, hbF, hoF, hrF, .inr ⟨rfl, _, rfl, hfr, ext_new _ _ _ (Nat.le_refl _), hMf⟩⟩
    have g2 : w2.cell? ⟨w.heap.size, 0, none⟩ = some (.pointer (some ⟨e, 0, none⟩)) := (hUall.cell (p := ⟨w.heap.size, 0, none⟩) (show w.heap.size < w1.heap.size by omega) (show ¬ (w.heap.size = e ∨ w.heap.size = w1.heap.size) by omega)).trans (by rw [← hw1]; exact (Blk.new w _ _).cell 0)
    have g8 : w2.cell? ⟨e, 8, none⟩ = some (.map (some w1.heap.size)) := hbF.cell 8
    have HF := Lib.hid (And.intro hS2 hE)
    have HM := Lib.hid hMf
    clear hb1 hsz1 hfb hmu hszA hal hbm hb8 hb8d hb5 hb6 hUall hMf hS2 hbF hoF hrF hfr hE HO HK hU hM hw1 hk
    generalize w.heap.size = lb at *
    generalize w1.heap.size = fb at *
    go_wp2_with ((with_reducible show wpList _ _ _ ((⟨some 16, _, _, _, _, _⟩ : Oper) :: _) _ _); refine wpList_lookB rfl _ _ _ false rfl HM.out keyU encU_inj Tryz.underlying121 (zeroF _) rfl (a := k) rfl (keyU_mk k hk64) V (by rw [if_neg (by decide)]; exact HV.out) ?_)
    go_ret
    exact ⟨rfl, _, HF.out⟩
  · have HO := Lib.hid (eonce_done ⟨e, 5, none⟩ 1 (by decide) (.func (.func 61) #[] #[.pointer (some ⟨w.heap.size, 0, none⟩)]) (w.alloc (.cells #[.pointer (some ⟨e, 0, none⟩)] 42)) (hb1.cell 5))
    have HF := Lib.hid (And.intro hst (show EngAt (ext own w c) c (w.alloc (.cells #[.pointer (some ⟨e, 0, none⟩)] 42)) e mp way s from ⟨rb, 1, _, hb1, ho1, hr1, .inr ⟨rfl, fb, rfl, hfr, hfo, hfm⟩⟩))
    have HM := Lib.hid hfm
    have g2 := (Blk.new w 42 #[.pointer (some ⟨e, 0, none⟩)]).cell 0
    have g8 : (w.alloc (.cells #[.pointer (some ⟨e, 0, none⟩)] 42)).cell? ⟨e, 8, none⟩ = some (.map (some fb)) := hb1.cell 8
    simp only [List.getElem?_toArray, List.getElem?_cons_zero] at g2
    clear hst hstF hb hb1 ho ho1 hr hr1 hd hsz hfm hfo hfr hk
    go_enter Tryz.func34, Tryz.ntmps34
    go_wp2_with fail
    generalize hw1 : w.alloc (.cells #[.pointer (some ⟨e, 0, none⟩)] 42) = w1 at *
    refine HO.out.mono ?_
    rintro x w2 ⟨rfl, rfl⟩
    clear HO hw1
    go_wp2_with ((with_reducible show wpList _ _ _ ((⟨some 16, _, _, _, _, _⟩ : Oper) :: _) _ _); refine wpList_lookB rfl _ _ _ false rfl HM.out keyU encU_inj Tryz.underlying121 (zeroF _) rfl (a := k) rfl (keyU_mk k hk64) V (by rw [if_neg (by decide)]; exact HV.out) ?_)
    go_ret
    exact ⟨rfl, _, HF.out⟩
end
end Go.Proofs.YtonhlgfgbdiapaaGreat

/- The engine: Flat; a flat way. -/
namespace Go.Proofs.YtonhlgfgbdiapaaGreat
set_option linter.unusedVariables false
set_option linter.unusedSimpArgs false
open Go.RowKit Go.Maps
set_option maxRecDepth 100000
section
def wayF (mp : Nat) : Value := .iface 145 (.agg #[.pointer (some ⟨mp, 0, none⟩)])
theorem eng_Flat (own : Nat → Nat) (c mp : Nat) (w : World) : Calls Tryz.prog 21 #[.pointer (some ⟨mp, 0, none⟩)] w fun x w' => ∃ e own', x = .returned (.pointer (some ⟨e, 0, none⟩)) ∧ Step (fun _ => False) own w own' w' ∧ EngAt own' c w' e mp (wayF mp) eg0 := by
  have hmm := @run_makeMap Tryz.prog
  have hS1 : Step (fun _ => False) own w (ext own w c) (w.alloc (.map #[] 0)) := ⟨(Upd.refl _ _).alloc _, fun b hb => ext_old _ _ _ hb⟩
  have hS2 : Step (fun _ => False) (ext own w c) (w.alloc (.map #[] 0)) (ext (ext own w c) (w.alloc (.map #[] 0)) c) ((w.alloc (.map #[] 0)).alloc (.cells (egC mp (wayF mp) w.heap.size 0 0 0 (.map none)) 123)) := ⟨(Upd.refl _ _).alloc _, fun b hb => ext_old _ _ _ hb⟩
  have hM := MapB.made w Tryz.prog 23 encU
  have hR : RegAt (ext own w c) c (w.alloc (.map #[] 0)) w.heap.size eg0.rg := ⟨ext_new _ _ _ (Nat.le_refl _), [], hM, fun k => rfl⟩
  have hE : EngAt (ext (ext own w c) (w.alloc (.map #[] 0)) c) c ((w.alloc (.map #[] 0)).alloc (.cells (egC mp (wayF mp) w.heap.size 0 0 0 (.map none)) 123)) (w.alloc (.map #[] 0)).heap.size mp (wayF mp) eg0 :=
    ⟨w.heap.size, 0, .map none, Blk.new _ _ _, ext_new _ _ _ (Nat.le_refl _), hR.step hS2 (fun h => h), .inl ⟨rfl, rfl⟩⟩
  have hSS := hS1.trans hS2
  rw [World.size_alloc] at hE
  have HF := Lib.hid (And.intro hSS hE)
  clear hS1 hS2 hM hR hE hSS
  go_enter Tryz.func21, Tryz.ntmps21
  go_wp2
  go_ret
  exact ⟨_, _, rfl, HF.out⟩
/-- a flat way: access, message -/
theorem flat_access {own : Nat → Nat} {c p base n : Nat} {m : Nat → Int} {w : World} (h : MemAt ramK own c w p base n m) (d : Nat) (a : Nat) (ha : a < 18446744073709551616) (wr : Bool) :
    Calls Tryz.prog 170 #[.agg #[.pointer (some ⟨p, 0, none⟩)], .int .u64 (a : Int), .bool wr] w fun x w' => x = .returned (.tuple #[.int .u64 (a : Int), .bool (hasR base n a 8)]) ∧ Step (fun _ => False) own w (ext own w d) w' := by
  have hst : Step (fun _ => False) own w (ext own w d) (w.alloc (.cells #[.pointer (some ⟨p, 0, none⟩)] 145)) := ⟨(Upd.refl _ _).alloc _, fun b hb => ext_old _ _ _ hb⟩
  have hh := ram_hasC (h.step hst (fun h => h)) (a : Int) 8 (by omega) (by omega) (by decide) (by decide)
  have HH := Lib.hid hh
  have HS := Lib.hid hst
  clear hh hst h
  go_enter Tryz.func170, Tryz.ntmps170
  go_wp2_with fail
  ((with_reducible refine HH.out.mono ?_); rintro x wz ⟨rfl, q, rfl⟩)
  have HF := Lib.hid (HS.out.drewN q)
  clear HH HS
  go_wp2
  go_ret2
  exact ⟨rfl, HF.out⟩
theorem flat_message (own : Nat → Nat) (c p d : Nat) (a k : Nat) (ha : a < 18446744073709551616) (hk : k < 18446744073709551616) (w : World) :
    Calls Tryz.prog 171 #[.agg #[.pointer (some ⟨p, 0, none⟩)], .int .u64 (a : Int), .int .u64 (k : Int)] w fun x w' => x = .returned (.tuple #[.agg #[.int .i64 (msgF a k).1, .int .i64 (msgF a k).2.1], .bool (msgF a k).2.2]) ∧ ∃ own', Step (fun _ => False) own w own' w' := by
  have hS1 : Step (fun _ => False) own w (ext own w d) (w.alloc (.cells #[.pointer (some ⟨p, 0, none⟩)] 145)) := ⟨(Upd.refl _ _).alloc _, fun b hb => ext_old _ _ _ hb⟩
  have hS2 : Step (fun _ => False) (ext own w d) (w.alloc (.cells #[.pointer (some ⟨p, 0, none⟩)] 145)) (ext (ext own w d) (w.alloc (.cells #[.pointer (some ⟨p, 0, none⟩)] 145)) d) ((w.alloc (.cells #[.pointer (some ⟨p, 0, none⟩)] 145)).alloc (.cells #[.int .i64 0, .int .i64 0] 47)) := ⟨(Upd.refl _ _).alloc _, fun b hb => ext_old _ _ _ hb⟩
  have hB := Blk.new (w.alloc (.cells #[.pointer (some ⟨p, 0, none⟩)] 145)) 47 #[.int .i64 0, .int .i64 0]
  rw [World.size_alloc] at hB
  have hSS := hS1.trans hS2
  obtain ⟨own2, ho2⟩ : ∃ own2, ext (ext own w d) (w.alloc (.cells #[.pointer (some ⟨p, 0, none⟩)] 145)) d = own2 := ⟨_, rfl⟩
  rw [ho2] at hSS
  have x0 := hB.cell 0
  have x1 := hB.cell 1
  simp only [List.getElem?_toArray, List.getElem?_cons_zero, List.getElem?_cons_succ] at x0 x1
  have f0 := hB.frozen 0
  have f1 := hB.frozen 1
  have hlr := hB.lt
  have hxl : w.heap.size ≤ w.heap.size + 1 := by omega
  have HB := Lib.hid (And.intro hSS hB)
  have hUx : ∀ (x y : Value), Step (fun _ => False) own w (ext (ext own w d) (w.alloc (.cells #[.pointer (some ⟨p, 0, none⟩)] 145)) d) ((w.alloc (.cells #[.pointer (some ⟨p, 0, none⟩)] 145)).alloc (.cells #[x, y] 47)) ∧ Blk ((w.alloc (.cells #[.pointer (some ⟨p, 0, none⟩)] 145)).alloc (.cells #[x, y] 47)) (w.heap.size + 1) 47 #[x, y] := fun x y =>
    ⟨hS1.trans ⟨(Upd.refl _ _).alloc _, fun b hb => ext_old _ _ _ hb⟩, by have := Blk.new (w.alloc (.cells #[.pointer (some ⟨p, 0, none⟩)] 145)) 47 #[x, y]; rwa [World.size_alloc] at this⟩
  have HX := Lib.hid hUx
  clear hS1 hS2 hB hSS ho2 hUx
  by_cases h1 : a = 4276092928
  · have k1 : ((a : Int) != 4276092928) = false := by rw [h1]; rfl
    by_cases h2 : k ≤ 15
    · have k2 : decide ((15 : Int) < (k : Int)) = false := by simp; omega
      rw [show msgF a k = (1, 16 + (k : Int), true) from if_pos ⟨h1, h2⟩]
      have hk63 : (k : Int) ≤ 15 := by omega
      clear h1 h2
      go_enter Tryz.func171, Tryz.ntmps171
      go_wp2
      refine bodyPost_ret (results_cell_tmp_row rfl _ _ (w.heap.size + 1) 47 #[.int .i64 1, .int .i64 (16 + (k : Int))] _ rfl (HX.out _ _).2 Tryz.underlying47 rfl (by kernel_rfl)) rfl ?_
      exact ⟨rfl, _, (HX.out _ _).1⟩
    · have k2 : decide ((15 : Int) < (k : Int)) = true := by simp; omega
      rw [show msgF a k = (0, 0, false) from if_neg (by omega)]
      clear h1 h2
      go_enter Tryz.func171, Tryz.ntmps171
      go_wp2
      refine bodyPost_ret (results_cell_tmp_row rfl _ _ (w.heap.size + 1) 47 #[.int .i64 0, .int .i64 0] _ rfl HB.out.2 Tryz.underlying47 rfl (by kernel_rfl)) rfl ?_
      exact ⟨rfl, own2, HB.out.1⟩
  · have k1 : ((a : Int) != 4276092928) = true := by simp; omega
    rw [show msgF a k = (0, 0, false) from if_neg (by omega)]
    clear h1
    go_enter Tryz.func171, Tryz.ntmps171
    go_wp2
    refine bodyPost_ret (results_cell_tmp_row rfl _ _ (w.heap.size + 1) 47 #[.int .i64 0, .int .i64 0] _ rfl HB.out.2 Tryz.underlying47 rfl (by kernel_rfl)) rfl ?_
    exact ⟨rfl, own2, HB.out.1⟩
end
end Go.Proofs.YtonhlgfgbdiapaaGreat

/- The engine: Step, for any way. -/
namespace Go.Proofs.YtonhlgfgbdiapaaGreat
set_option linter.unusedVariables false
set_option linter.unusedSimpArgs false
open Go.RowKit Go.Maps
set_option maxRecDepth 100000
def nextE (s : Eg) (o1 o2 : Bool) : Eg := if s.st = 1 then (if o1 && o2 then (if s.cp + 8 < s.rg 16 then { s with cp := s.cp + 8 } else { s with st := 2, cp := s.cp + 8 }) else { s with st := 3 }) else s
def atE (o1 o2 : Bool) : Nat := if o1 then (if o2 then 4 else 2) else 1
def whichE (s : Eg) (o1 o2 : Bool) : Nat := if s.st = 1 then (if (nextE s o1 o2).st = 1 then atE o1 o2 else if s.rg 40 = 0 then atE o1 o2 else atE o1 o2 + 10) else 0
def resE (s : Eg) (o1 o2 : Bool) (R : Nat → Int × Int × Bool) : Int × Int × Bool := if s.st = 1 then (if (nextE s o1 o2).st = 1 then (0, 0, false) else if s.rg 40 = 0 then (0, 0, false) else R (atE o1 o2)) else (0, 0, false)
theorem wrapN (a b : Nat) : (((a + b) % 18446744073709551616 : Nat) : Int) = IntKind.u64.wrap ((a : Int) + (b : Int)) := by
  simp [IntKind.wrap, IntKind.signed, IntKind.bits]
section
variable {own own' : Nat → Nat} {c e mp rb b : Nat} {way rd : Value} {w w' : World} {s s' : Eg}
/-- another block is written -/
theorem EngAt.other {lb : Nat} {ty : TypeId} {cs : Array Value} (h : EngAt own c w e mp way s) (hB : Blk w lb ty cs) (hne : e ≠ lb) (hU : Upd (· = lb) w w') : EngAt own c w' e mp way s := by
  obtain ⟨rb, dn, rd, hb, ho, ⟨hro, kv, hm, hk⟩, hd⟩ := h
  refine ⟨rb, dn, rd, hb.upd hU hne, ho, ⟨hro, kv, hm.upd hU (hB.ne_map hm), hk⟩, ?_⟩
  rcases hd with h | ⟨h1, fb, h2, h3, hfo, hfm⟩
  · exact .inl h
  · exact .inr ⟨h1, fb, h2, h3, hfo, hfm.upd hU (hB.ne_map hfm)⟩
/-- a step's way: what the two accesses, the memory and the message do; V: what holds of all that stands around -/
structure WayG (c e mp : Nat) (ty : TypeId) (rv : Value) (ac ms : Nat) (V : Nat → (Nat → Nat) → World → Prop) (C : Nat → Prop) (s : Eg) (o1 o2 : Bool) (f1 f2 v : Nat) (R : Nat → Int × Int × Bool) : Prop where
  m1 : ∀ w, (method 334 ty rv "citadel/engine.access").run Tryz.prog w = .ok (ac, rv) w
  m2 : ∀ w, (method 334 ty rv "citadel/engine.message").run Tryz.prog w = .ok (ms, rv) w
  c1 : ∀ args w, (callFunc ac args).run Tryz.prog w = .ok (.enter ac args) w
  c2 : ∀ args w, (callFunc ms args).run Tryz.prog w = .ok (.enter ms args) w
  hC : ¬ C c
  hV : ∀ i own w own' w', V i own w → Step (· = c) own w own' w' → V i own' w'
  b1 : f1 < 18446744073709551616
  b2 : f2 < 18446744073709551616
  bv : v < 18446744073709551616
  A1 : ∀ own w, V 0 own w → Calls Tryz.prog ac #[rv, .int .u64 (((s.rg 0 + s.cp) % 18446744073709551616 : Nat) : Int), .bool false] w fun x w' => x = .returned (.tuple #[.int .u64 (f1 : Int), .bool o1]) ∧ ∃ own', Step C own w own' w' ∧ V 1 own' w'
  A2 : o1 = true → ∀ own w, V 1 own w → Calls Tryz.prog ac #[rv, .int .u64 (((s.rg 8 + s.cp) % 18446744073709551616 : Nat) : Int), .bool true] w fun x w' => x = .returned (.tuple #[.int .u64 (f2 : Int), .bool o2]) ∧ ∃ own', Step C own w own' w' ∧ V 2 own' w'
  rd : o1 = true → o2 = true → ∀ own w, V 2 own w → Calls Tryz.prog 37 #[.pointer (some ⟨mp, 0, none⟩), .int .u64 (f1 : Int), .int .i64 8] w fun x w' => ∃ g, x = .returned (.tuple #[.int .u64 (v : Int), .bool g]) ∧ ∃ own', Step C own w own' w' ∧ V 3 own' w'
  wr : o1 = true → o2 = true → ∀ own w, V 3 own w → Calls Tryz.prog 40 #[.pointer (some ⟨mp, 0, none⟩), .int .u64 (f2 : Int), .int .i64 8, .int .u64 (v : Int)] w fun x w' => ∃ g, x = .returned (.bool g) ∧ ∃ own', Step C own w own' w' ∧ V 4 own' w'
  ms : ∀ i, i = atE o1 o2 → ∀ own w, V i own w → Calls Tryz.prog ms #[rv, .int .u64 (s.rg 40 : Int), .int .u64 (s.rg 48 : Int)] w fun x w' => x = .returned (.tuple #[.agg #[.int .i64 (R i).1, .int .i64 (R i).2.1], .bool (R i).2.2]) ∧ ∃ own', Step C own w own' w' ∧ V (i + 10) own' w'
/-- where a step stands -/
structure ES (V : Nat → (Nat → Nat) → World → Prop) (C : Nat → Prop) (own0 : Nat → Nat) (w0 : World) (own : Nat → Nat) (w : World) (c e mp lb : Nat) (way : Value) (s : Eg) (i : Nat) : Prop where
  st : Step (fun x => x = c ∨ C x) own0 w0 own w
  eg : EngAt own c w e mp way s
  v : V i own w
  bl : Blk w lb 47 #[.int .i64 0, .int .i64 0]
  ol : own lb = c
  ne : e ≠ lb
section
variable {V : Nat → (Nat → Nat) → World → Prop} {C : Nat → Prop} {own0 own1 : Nat → Nat} {w0 w1 : World} {lb i j : Nat}
theorem ES.call (h : ES V C own0 w0 own w c e mp lb way s i) (hC : ¬ C c) (hS : Step C own w own1 w1) (hv : V j own1 w1) : ES V C own0 w0 own1 w1 c e mp lb way s j :=
  ⟨h.st.trans (hS.mono (fun _ hx => .inr hx)), h.eg.step hS hC, hv, (hS.blk h.bl h.ol hC).1, (hS.blk h.bl h.ol hC).2, h.ne⟩
theorem ES.put (h : ES V C own0 w0 own w c e mp lb way s i) (hV : ∀ i own w own' w', V i own w → Step (· = c) own w own' w' → V i own' w') (k : Nat) (x : Value) (he : ∀ rb dn rd, egC mp way rb s'.st s'.cp dn rd = (egC mp way rb s.st s.cp dn rd).setIfInBounds k x) (hrg : s'.rg = s.rg) :
    ES V C own0 w0 own (w.setCell ⟨e, k, none⟩ x) c e mp lb way s' i := by
  obtain ⟨hS, hE⟩ := h.eg.put (s' := s') k x he hrg
  exact ⟨h.st.trans (hS.mono (fun _ hx => .inl hx)), hE, hV _ _ _ _ _ h.v hS, h.bl.upd ((Upd.refl (· = e) w).setCell (p := ⟨e, k, none⟩) (.inl rfl) _) (fun h' => h.ne h'.symm), h.ol, h.ne⟩
theorem ES.loc (h : ES V C own0 w0 own w c e mp lb way s i) : w.cell? ⟨lb, 0, none⟩ = some (.int .i64 0) ∧ w.cell? ⟨lb, 1, none⟩ = some (.int .i64 0) ∧ w.frozen? ⟨lb, 0, none⟩ = false ∧ w.frozen? ⟨lb, 1, none⟩ = false ∧ lb < w.heap.size :=
  ⟨h.bl.cell 0, h.bl.cell 1, h.bl.frozen 0, h.bl.frozen 1, h.bl.lt⟩
theorem ES.lset (h : ES V C own0 w0 own w c e mp lb way s i) (hV : ∀ i own w own' w', V i own w → Step (· = c) own w own' w' → V i own' w') (x y : Int) :
    Step (fun x => x = c ∨ C x) own0 w0 own ((w.setCell ⟨lb, 0, none⟩ (.int .i64 x)).setCell ⟨lb, 1, none⟩ (.int .i64 y)) ∧ EngAt own c ((w.setCell ⟨lb, 0, none⟩ (.int .i64 x)).setCell ⟨lb, 1, none⟩ (.int .i64 y)) e mp way s ∧ V i own ((w.setCell ⟨lb, 0, none⟩ (.int .i64 x)).setCell ⟨lb, 1, none⟩ (.int .i64 y)) ∧ Blk ((w.setCell ⟨lb, 0, none⟩ (.int .i64 x)).setCell ⟨lb, 1, none⟩ (.int .i64 y)) lb 47 #[.int .i64 x, .int .i64 y] := by
  have hU : Upd (· = lb) w ((w.setCell ⟨lb, 0, none⟩ (.int .i64 x)).setCell ⟨lb, 1, none⟩ (.int .i64 y)) := ((Upd.refl (· = lb) w).setCell (p := ⟨lb, 0, none⟩) (.inl rfl) _).setCell (p := ⟨lb, 1, none⟩) (.inl rfl) _
  have hS : Step (· = c) own w own ((w.setCell ⟨lb, 0, none⟩ (.int .i64 x)).setCell ⟨lb, 1, none⟩ (.int .i64 y)) := ⟨hU.mono (fun i _ hi => by rw [hi]; exact h.ol), fun _ _ => rfl⟩
  exact ⟨h.st.trans (hS.mono (fun _ hx => .inl hx)), h.eg.other h.bl h.ne hU, hV _ _ _ _ _ h.v hS, (h.bl.set_ 0 (.int .i64 x)).set_ 1 (.int .i64 y)⟩
theorem ES.drew (h : ES V C own0 w0 own w c e mp lb way s i) (hV : ∀ i own w own' w', V i own w → Step (· = c) own w own' w' → V i own' w') : ES V C own0 w0 own w.drew c e mp lb way s i :=
  ⟨h.st.trans ((Step.refl _ _ _).drew), h.eg.step ((Step.refl (fun _ => False) _ _).drew) (fun x => x), hV _ _ _ _ _ h.v ((Step.refl _ _ _).drew), h.bl, h.ol, h.ne⟩
theorem ES.alloc (h : EngAt own c w e mp way s) (hV : ∀ i own w own' w', V i own w → Step (· = c) own w own' w' → V i own' w') (hv : V i own w) (cs : Array Value) (hcs : cs = #[.int .i64 0, .int .i64 0]) : ES V C own w (ext own w c) (w.alloc (.cells cs 47)) c e mp w.heap.size way s i := by
  subst hcs
  have hst : ∀ D : Nat → Prop, Step D own w (ext own w c) (w.alloc (.cells #[.int .i64 0, .int .i64 0] 47)) := fun D => ⟨(Upd.refl _ _).alloc _, fun b hb => ext_old _ _ _ hb⟩
  exact ⟨hst _, h.step (hst (fun _ => False)) (fun x => x), hV _ _ _ _ _ hv (hst _), Blk.new _ _ _, ext_new _ _ _ (Nat.le_refl _), Nat.ne_of_lt h.cells.2.2.2.2.2.2⟩
end
set_option maxHeartbeats 4000000 in
theorem eng_StepG {ty : TypeId} {rv : Value} {ac ms : Nat} {V : Nat → (Nat → Nat) → World → Prop} {C : Nat → Prop} {o1 o2 : Bool} {f1 f2 v : Nat} {R : Nat → Int × Int × Bool}
    (h : EngAt own c w e mp (.iface ty rv) s) (hok : EgOk s) (H : s.st = 1 → WayG c e mp ty rv ac ms V C s o1 o2 f1 f2 v R) (hV : ∀ i own w own' w', V i own w → Step (· = c) own w own' w' → V i own' w') (hv : V 0 own w) :
    Calls Tryz.prog 17 #[.pointer (some ⟨e, 0, none⟩)] w fun x w' => x = .returned (.tuple #[.agg #[.int .i64 (resE s o1 o2 R).1, .int .i64 (resE s o1 o2 R).2.1], .bool (resE s o1 o2 R).2.2]) ∧
      ∃ own', Step (fun x => x = c ∨ C x) own w own' w' ∧ EngAt own' c w' e mp (.iface ty rv) (nextE s o1 o2) ∧ V (whichE s o1 o2) own' w' := by
  have hE0 := ES.alloc (C := C) h hV hv _ rfl
  have hB := eng_Busy hE0.eg
  by_cases hs : s.st = 1
  · have HG := H hs
    rw [decide_eq_true hs] at hB
    have HB := Lib.hid hB
    have hE1 := hE0.drew hV
    have HS := Lib.hid (eng_src hE1.eg)
    have hA := HG.A1 _ _ hE1.v
    rw [wrapN] at hA
    have HA := Lib.hid hA
    obtain ⟨k0, k1, k3, k4, z3, z4, kl⟩ := hE0.eg.cells
    have hcp := hok.cp
    have hr0 := hok.rg 0
    have HE := Lib.hid hE1
    clear H h hE0 hE1 hB hA
    have hS : (fun (W' : World) => W'.cell? ⟨e, 1, none⟩ = some (.iface ty rv) ∧ W'.cell? ⟨e, 4, none⟩ = some (.int .u64 (s.cp : Int))) (w.alloc (.cells #[.int .i64 0, .int .i64 0] 47)) := ⟨k1, k4⟩
    go_enter Tryz.func17, Tryz.ntmps17
    go_wp2_with fail
    ((with_reducible refine HB.out.mono ?_); rintro x wz ⟨rfl, rfl⟩)
    clear HB
    go_wp2_with fail
    refine wpE_region (S := fun (W' : World) => W'.cell? ⟨e, 1, none⟩ = some (.iface ty rv) ∧ W'.cell? ⟨e, 4, none⟩ = some (.int .u64 (s.cp : Int))) (s := 18) (by kernel_rfl) ?_
    have hS : (fun (W' : World) => W'.cell? ⟨e, 1, none⟩ = some (.iface ty rv) ∧ W'.cell? ⟨e, 4, none⟩ = some (.int .u64 (s.cp : Int))) _ := hS
    refine wpE_take (i := 0) (oi := { dst := some 14, op := Go.Op.move (Go.Operand.tmp 0), type := 42, pos := "engine.go:174", after := #[], guard := none }) (v := ?_) rfl (by kernel_rfl) (fun _ _ _ h => h) (Or.inl ⟨by rfl, fun W hW => ?_⟩) hS ?_
    rotate_left
    · obtain ⟨hw1, hw2⟩ := hW; go_simp; (try go_bits); (try rw [if_pos (by omega)]); (try with_reducible rfl)
    (try simp only [Act.put, List.setIfInBounds_toArray, List.set_cons_succ, List.set_cons_zero])
    refine wpE_take (i := 1) (oi := { dst := some 15, op := Go.Op.nilCheck (Go.Operand.tmp 14), type := 0, pos := "engine.go:174", after := #[{ on := 0, ground := Go.Ground.data }], guard := none }) (v := ?_) rfl (by kernel_rfl) (fun _ _ _ h => h) (Or.inl ⟨by rfl, fun W hW => ?_⟩) hS ?_
    rotate_left
    · obtain ⟨hw1, hw2⟩ := hW; go_simp; (try go_bits); (try rw [if_pos (by omega)]); (try with_reducible rfl)
    (try simp only [Act.put, List.setIfInBounds_toArray, List.set_cons_succ, List.set_cons_zero])
    refine wpE_take (i := 2) (oi := { dst := some 16, op := Go.Op.fieldAddr 123 (Go.Operand.tmp 15) 1, type := 0, pos := "engine.go:174", after := #[{ on := 1, ground := Go.Ground.data }], guard := none }) (v := ?_) rfl (by kernel_rfl) (fun _ _ _ h => h) (Or.inl ⟨by rfl, fun W hW => ?_⟩) hS ?_
    rotate_left
    · obtain ⟨hw1, hw2⟩ := hW; go_simp; (try go_bits); (try rw [if_pos (by omega)]); (try with_reducible rfl)
    (try simp only [Act.put, List.setIfInBounds_toArray, List.set_cons_succ, List.set_cons_zero])
    refine wpE_take (i := 3) (oi := { dst := some 17, op := Go.Op.load 108 (Go.Operand.tmp 16), type := 108, pos := "engine.go:174", after := #[{ on := 2, ground := Go.Ground.data }], guard := none }) (v := ?_) rfl (by kernel_rfl) (fun _ _ _ h => h) (Or.inl ⟨by rfl, fun W hW => ?_⟩) hS ?_
    rotate_left
    · obtain ⟨hw1, hw2⟩ := hW; go_simp; (try go_bits); (try rw [if_pos (by omega)]); (try with_reducible rfl)
    (try simp only [Act.put, List.setIfInBounds_toArray, List.set_cons_succ, List.set_cons_zero])
    refine wpE_take (i := 4) (oi := { dst := some 18, op := Go.Op.move (Go.Operand.tmp 0), type := 42, pos := "engine.go:174", after := #[], guard := none }) (v := ?_) rfl (by kernel_rfl) (fun _ _ _ h => h) (Or.inl ⟨by rfl, fun W hW => ?_⟩) hS ?_
    rotate_left
    · obtain ⟨hw1, hw2⟩ := hW; go_simp; (try go_bits); (try rw [if_pos (by omega)]); (try with_reducible rfl)
    (try simp only [Act.put, List.setIfInBounds_toArray, List.set_cons_succ, List.set_cons_zero])
    refine wpE_take (i := 6) (oi := { dst := some 20, op := Go.Op.move (Go.Operand.tmp 0), type := 42, pos := "engine.go:174", after := #[], guard := none }) (v := ?_) rfl (by kernel_rfl) (fun _ _ _ h => h) (Or.inl ⟨by rfl, fun W hW => ?_⟩) hS ?_
    rotate_left
    · obtain ⟨hw1, hw2⟩ := hW; go_simp; (try go_bits); (try rw [if_pos (by omega)]); (try with_reducible rfl)
    (try simp only [Act.put, List.setIfInBounds_toArray, List.set_cons_succ, List.set_cons_zero])
    refine wpE_take (i := 7) (oi := { dst := some 21, op := Go.Op.nilCheck (Go.Operand.tmp 20), type := 0, pos := "engine.go:174", after := #[{ on := 6, ground := Go.Ground.data }], guard := none }) (v := ?_) rfl (by kernel_rfl) (fun _ _ _ h => h) (Or.inl ⟨by rfl, fun W hW => ?_⟩) hS ?_
    rotate_left
    · obtain ⟨hw1, hw2⟩ := hW; go_simp; (try go_bits); (try rw [if_pos (by omega)]); (try with_reducible rfl)
    (try simp only [Act.put, List.setIfInBounds_toArray, List.set_cons_succ, List.set_cons_zero])
    refine wpE_take (i := 8) (oi := { dst := some 22, op := Go.Op.fieldAddr 123 (Go.Operand.tmp 21) 4, type := 0, pos := "engine.go:174", after := #[{ on := 7, ground := Go.Ground.data }], guard := none }) (v := ?_) rfl (by kernel_rfl) (fun _ _ _ h => h) (Or.inl ⟨by rfl, fun W hW => ?_⟩) hS ?_
    rotate_left
    · obtain ⟨hw1, hw2⟩ := hW; go_simp; (try go_bits); (try rw [if_pos (by omega)]); (try with_reducible rfl)
    (try simp only [Act.put, List.setIfInBounds_toArray, List.set_cons_succ, List.set_cons_zero])
    refine wpE_take (i := 9) (oi := { dst := some 23, op := Go.Op.load 23 (Go.Operand.tmp 22), type := 23, pos := "engine.go:174", after := #[{ on := 8, ground := Go.Ground.data }], guard := none }) (v := ?_) rfl (by kernel_rfl) (fun _ _ _ h => h) (Or.inl ⟨by rfl, fun W hW => ?_⟩) hS ?_
    rotate_left
    · obtain ⟨hw1, hw2⟩ := hW; go_simp; (try go_bits); (try rw [if_pos (by omega)]); (try with_reducible rfl)
    (try simp only [Act.put, List.setIfInBounds_toArray, List.set_cons_succ, List.set_cons_zero])
    refine wpE_take (i := 11) (oi := { dst := some 25, op := Go.Op.nilCheck (Go.Operand.tmp 17), type := 108, pos := "engine.go:174", after := #[{ on := 3, ground := Go.Ground.data }], guard := none }) (v := ?_) rfl (by kernel_rfl) (fun _ _ _ h => h) (Or.inl ⟨by rfl, fun W hW => ?_⟩) hS ?_
    rotate_left
    · obtain ⟨hw1, hw2⟩ := hW; go_simp; (try go_bits); (try rw [if_pos (by omega)]); (try with_reducible rfl)
    (try simp only [Act.put, List.setIfInBounds_toArray, List.set_cons_succ, List.set_cons_zero])
    refine wpE_take (i := 12) (oi := { dst := some 26, op := Go.Op.move (Go.Operand.tmp 17), type := 108, pos := "engine.go:174", after := #[{ on := 3, ground := Go.Ground.data }, { on := 11, ground := Go.Ground.data }], guard := none }) (v := ?_) rfl (by kernel_rfl) (fun _ _ _ h => h) (Or.inl ⟨by rfl, fun W hW => ?_⟩) hS ?_
    rotate_left
    · obtain ⟨hw1, hw2⟩ := hW; go_simp; (try go_bits); (try rw [if_pos (by omega)]); (try with_reducible rfl)
    (try simp only [Act.put, List.setIfInBounds_toArray, List.set_cons_succ, List.set_cons_zero])
    refine wpE_only (i := 5) (oi := { dst := some 19, op := Go.Op.call { callee := Go.Callee.value (Go.Operand.func 38), args := #[Go.Operand.tmp 18], argTypes := #[42] }, type := 23, pos := "engine.go:174", after := #[{ on := 4, ground := Go.Ground.data }], guard := none }) rfl (by kernel_rfl) (by rfl) (fun K hK => ?_)
    go_simp; refine HS.out.mono ?_; rintro x wz ⟨rfl, rfl⟩; refine hK _ _ hS ?_; clear hK K
    (try simp only [Act.put, List.setIfInBounds_toArray, List.set_cons_succ, List.set_cons_zero])
    refine wpE_take (i := 10) (oi := { dst := some 24, op := Go.Op.binOp Go.BinOp.add 23 (Go.Operand.tmp 19) (Go.Operand.tmp 23) 23, type := 23, pos := "engine.go:174", after := #[{ on := 5, ground := Go.Ground.data }, { on := 9, ground := Go.Ground.data }], guard := none }) (v := ?_) rfl (by kernel_rfl) (fun _ _ _ h => h) (Or.inl ⟨by rfl, fun W hW => ?_⟩) hS ?_
    rotate_left
    · obtain ⟨hw1, hw2⟩ := hW; go_simp; (try go_bits); (try rw [if_pos (by omega)]); (try with_reducible rfl)
    (try simp only [Act.put, List.setIfInBounds_toArray, List.set_cons_succ, List.set_cons_zero])
    refine wpE_only (i := 13) (oi := { dst := some 27, op := Go.Op.call { callee := Go.Callee.invoke (Go.Operand.tmp 26) "citadel/engine.access", args := #[Go.Operand.tmp 24, Go.Operand.const (Go.Value.bool false)], argTypes := #[23, 4] }, type := 52, pos := "engine.go:174", after := #[{ on := 12, ground := Go.Ground.data }, { on := 10, ground := Go.Ground.data }, { on := 5, ground := Go.Ground.chain }], guard := none }) rfl (by kernel_rfl) (by rfl) (fun K hK => ?_)
    go_simp; rw [HG.m1]; simp only [Result.andThen]; rw [HG.c1, Oper.upon_enter]; refine HA.out.mono ?_; rintro x w2 ⟨rfl, own2, hS2, hV2⟩
    have hE2 := HE.out.call HG.hC hS2 hV2
    obtain ⟨y0, y1, y3, y4, _⟩ := hE2.eg.cells
    have HE2 := Lib.hid hE2
    clear HE HA hS2 hV2 hE2 hS
    have hS : (fun (W' : World) => W'.cell? ⟨e, 1, none⟩ = some (.iface ty rv) ∧ W'.cell? ⟨e, 4, none⟩ = some (.int .u64 (s.cp : Int))) w2 := ⟨y1, y4⟩
    refine hK _ _ hS ?_; clear hK K
    (try simp only [Act.put, List.setIfInBounds_toArray, List.set_cons_succ, List.set_cons_zero])
    refine wpE_take (i := 14) (oi := { dst := some 13, op := Go.Op.move (Go.Operand.tmp 27), type := 52, pos := "engine.go:174", after := #[{ on := 13, ground := Go.Ground.data }], guard := none }) (v := ?_) rfl (by kernel_rfl) (fun _ _ _ h => h) (Or.inl ⟨by rfl, fun W hW => ?_⟩) hS ?_
    rotate_left
    · obtain ⟨hw1, hw2⟩ := hW; go_simp; (try go_bits); (try rw [if_pos (by omega)]); (try with_reducible rfl)
    (try simp only [Act.put, List.setIfInBounds_toArray, List.set_cons_succ, List.set_cons_zero])
    refine wpE_take (i := 15) (oi := { dst := some 28, op := Go.Op.extract (Go.Operand.tmp 13) 0, type := 23, pos := "engine.go:174", after := #[{ on := 14, ground := Go.Ground.data }], guard := none }) (v := ?_) rfl (by kernel_rfl) (fun _ _ _ h => h) (Or.inl ⟨by rfl, fun W hW => ?_⟩) hS ?_
    rotate_left
    · obtain ⟨hw1, hw2⟩ := hW; go_simp; (try go_bits); (try rw [if_pos (by omega)]); (try with_reducible rfl)
    (try simp only [Act.put, List.setIfInBounds_toArray, List.set_cons_succ, List.set_cons_zero])
    refine wpE_take (i := 16) (oi := { dst := some 29, op := Go.Op.extract (Go.Operand.tmp 13) 1, type := 4, pos := "engine.go:174", after := #[{ on := 14, ground := Go.Ground.data }, { on := 17, ground := Go.Ground.gcOnly Go.Departure.lateStores }], guard := none }) (v := ?_) rfl (by kernel_rfl) (fun _ _ _ h => h) (Or.inl ⟨by rfl, fun W hW => ?_⟩) hS ?_
    rotate_left
    · obtain ⟨hw1, hw2⟩ := hW; go_simp; (try go_bits); (try rw [if_pos (by omega)]); (try with_reducible rfl)
    (try simp only [Act.put, List.setIfInBounds_toArray, List.set_cons_succ, List.set_cons_zero])
    refine wpE_only (i := 17) (oi := { dst := some 4, op := Go.Op.assign (Go.Operand.tmp 28), type := 23, pos := "engine.go:174", after := #[{ on := 15, ground := Go.Ground.data }, { on := 13, ground := Go.Ground.chain }, { on := 0, ground := Go.Ground.phase }, { on := 1, ground := Go.Ground.phase }, { on := 2, ground := Go.Ground.phase }, { on := 3, ground := Go.Ground.phase }, { on := 4, ground := Go.Ground.phase }, { on := 5, ground := Go.Ground.phase }, { on := 6, ground := Go.Ground.phase }, { on := 7, ground := Go.Ground.phase }, { on := 8, ground := Go.Ground.phase }, { on := 9, ground := Go.Ground.phase }, { on := 10, ground := Go.Ground.phase }, { on := 11, ground := Go.Ground.phase }, { on := 12, ground := Go.Ground.phase }, { on := 13, ground := Go.Ground.phase }, { on := 14, ground := Go.Ground.phase }, { on := 15, ground := Go.Ground.phase }, { on := 16, ground := Go.Ground.textOnly Go.Departure.lateStores }], guard := none }) rfl (by kernel_rfl) (by rfl) (fun K hK => ?_)
    go_simp; (try go_bits); refine hK _ _ hS ?_; clear hK K
    (try simp only [Act.put, List.setIfInBounds_toArray, List.set_cons_succ, List.set_cons_zero])
    refine wpE_last (oi := { dst := some 5, op := Go.Op.assign (Go.Operand.tmp 29), type := 4, pos := "engine.go:174", after := #[{ on := 16, ground := Go.Ground.data }, { on := 17, ground := Go.Ground.chain }, { on := 0, ground := Go.Ground.phase }, { on := 1, ground := Go.Ground.phase }, { on := 2, ground := Go.Ground.phase }, { on := 3, ground := Go.Ground.phase }, { on := 4, ground := Go.Ground.phase }, { on := 5, ground := Go.Ground.phase }, { on := 6, ground := Go.Ground.phase }, { on := 7, ground := Go.Ground.phase }, { on := 8, ground := Go.Ground.phase }, { on := 9, ground := Go.Ground.phase }, { on := 10, ground := Go.Ground.phase }, { on := 11, ground := Go.Ground.phase }, { on := 12, ground := Go.Ground.phase }, { on := 13, ground := Go.Ground.phase }, { on := 14, ground := Go.Ground.phase }, { on := 15, ground := Go.Ground.phase }, { on := 16, ground := Go.Ground.phase }, { on := 17, ground := Go.Ground.phase }], guard := none }) rfl (by kernel_rfl) (by kernel_rfl) (by rfl) (fun K hK => ?_)
    go_simp; (try go_bits); refine hK _ _ ?_; clear hK K
    clear hS HS
    have hE := HE2.out
    clear HE2 y0 y1 y3 y4 k0 k1 k3 k4 z3 z4 kl
    cases o1 with
    | false =>
      have hnx : nextE s false o2 = { s with st := 3 } := by unfold nextE; rw [if_pos hs]; rfl
      have hp1 := hE.put (s' := { s with st := 2 }) hV 3 (.int .u64 2) (fun _ _ _ => rfl) rfl
      have hp2 := hp1.put (s' := { s with st := 3 }) hV 3 (.int .u64 3) (fun _ _ _ => rfl) rfl
      obtain ⟨k0, k1, k3, k4, z3, z4, kl⟩ := hE.eg.cells
      obtain ⟨l0, l1, g0, g1, ll⟩ := hE.loc
      have hne := hE.ne
      generalize w.heap.size = lb at *
      have HM := Lib.hid (eng_msi hp2.eg)
      by_cases h40 : s.rg 40 = 0
      · have e40 : ((s.rg 40 : Int) == 0) = true := by rw [h40]; rfl
        have HX := Lib.hid (show resE s false o2 R = (0, 0, false) ∧ whichE s false o2 = 1 ∧ nextE s false o2 = { s with st := 3 } from ⟨by simp [resE, hs, hnx, h40], by simp [whichE, hs, hnx, h40, atE], hnx⟩)
        have HP := Lib.hid (hp2.lset hV 0 0)
        clear hE hp1 hp2 h40 hs hnx
        go_wp2_with fail
        ((with_reducible refine HM.out.mono ?_); rintro x wz ⟨rfl, rfl⟩)
        clear HM
        go_wp2
        refine bodyPost_ret (results_cell_tmp_row rfl _ _ lb 47 #[.int .i64 0, .int .i64 0] _ rfl HP.out.2.2.2 Tryz.underlying47 rfl (by kernel_rfl)) rfl ?_
        rw [HX.out.1, HX.out.2.1, HX.out.2.2]
        exact ⟨rfl, _, HP.out.1, HP.out.2.1, HP.out.2.2.1⟩
      · have e40 : ((s.rg 40 : Int) == 0) = false := by simp; omega
        have HX := Lib.hid (show resE s false o2 R = R 1 ∧ whichE s false o2 = 1 + 10 ∧ nextE s false o2 = { s with st := 3 } from ⟨by simp [resE, hs, hnx, h40, atE], by simp [whichE, hs, hnx, h40, atE], hnx⟩)
        have hpd := hp2.drew hV
        have HM2 := Lib.hid (eng_msi hpd.eg)
        have HD := Lib.hid (eng_data hpd.eg)
        have HW := Lib.hid (HG.ms 1 rfl _ _ hpd.v)
        obtain ⟨y0, y1, y3, y4, _⟩ := hpd.eg.cells
        have HP := Lib.hid hpd
        clear hE hp1 hp2 hpd h40 hs hnx
        go_wp2_with fail
        ((with_reducible refine HM.out.mono ?_); rintro x wz ⟨rfl, rfl⟩)
        clear HM
        go_wp2_with fail
        refine wpE_region (S := fun (W' : World) => W'.cell? ⟨e, 1, none⟩ = some (.iface ty rv)) (s := 14) (by kernel_rfl) ?_
        have hS : (fun (W' : World) => W'.cell? ⟨e, 1, none⟩ = some (.iface ty rv)) _ := y1
        refine wpE_take (i := 0) (oi := { dst := some 92, op := Go.Op.move (Go.Operand.tmp 0), type := 42, pos := "engine.go:192", after := #[], guard := none }) (v := ?_) rfl (by kernel_rfl) (fun _ _ _ h => h) (Or.inl ⟨by rfl, fun W hW => ?_⟩) hS ?_
        rotate_left
        · (have hw1 : W.cell? ⟨e, 1, none⟩ = some (.iface ty rv) := hW); go_simp; (try go_bits); (try rw [if_pos (by omega)]); (try with_reducible rfl)
        (try simp only [Act.put, List.setIfInBounds_toArray, List.set_cons_succ, List.set_cons_zero])
        refine wpE_take (i := 1) (oi := { dst := some 93, op := Go.Op.nilCheck (Go.Operand.tmp 92), type := 0, pos := "engine.go:192", after := #[{ on := 0, ground := Go.Ground.data }], guard := none }) (v := ?_) rfl (by kernel_rfl) (fun _ _ _ h => h) (Or.inl ⟨by rfl, fun W hW => ?_⟩) hS ?_
        rotate_left
        · (have hw1 : W.cell? ⟨e, 1, none⟩ = some (.iface ty rv) := hW); go_simp; (try go_bits); (try rw [if_pos (by omega)]); (try with_reducible rfl)
        (try simp only [Act.put, List.setIfInBounds_toArray, List.set_cons_succ, List.set_cons_zero])
        refine wpE_take (i := 2) (oi := { dst := some 94, op := Go.Op.fieldAddr 123 (Go.Operand.tmp 93) 1, type := 0, pos := "engine.go:192", after := #[{ on := 1, ground := Go.Ground.data }], guard := none }) (v := ?_) rfl (by kernel_rfl) (fun _ _ _ h => h) (Or.inl ⟨by rfl, fun W hW => ?_⟩) hS ?_
        rotate_left
        · (have hw1 : W.cell? ⟨e, 1, none⟩ = some (.iface ty rv) := hW); go_simp; (try go_bits); (try rw [if_pos (by omega)]); (try with_reducible rfl)
        (try simp only [Act.put, List.setIfInBounds_toArray, List.set_cons_succ, List.set_cons_zero])
        refine wpE_take (i := 3) (oi := { dst := some 95, op := Go.Op.load 108 (Go.Operand.tmp 94), type := 108, pos := "engine.go:192", after := #[{ on := 2, ground := Go.Ground.data }], guard := none }) (v := ?_) rfl (by kernel_rfl) (fun _ _ _ h => h) (Or.inl ⟨by rfl, fun W hW => ?_⟩) hS ?_
        rotate_left
        · (have hw1 : W.cell? ⟨e, 1, none⟩ = some (.iface ty rv) := hW); go_simp; (try go_bits); (try rw [if_pos (by omega)]); (try with_reducible rfl)
        (try simp only [Act.put, List.setIfInBounds_toArray, List.set_cons_succ, List.set_cons_zero])
        refine wpE_take (i := 4) (oi := { dst := some 96, op := Go.Op.move (Go.Operand.tmp 0), type := 42, pos := "engine.go:192", after := #[], guard := none }) (v := ?_) rfl (by kernel_rfl) (fun _ _ _ h => h) (Or.inl ⟨by rfl, fun W hW => ?_⟩) hS ?_
        rotate_left
        · (have hw1 : W.cell? ⟨e, 1, none⟩ = some (.iface ty rv) := hW); go_simp; (try go_bits); (try rw [if_pos (by omega)]); (try with_reducible rfl)
        (try simp only [Act.put, List.setIfInBounds_toArray, List.set_cons_succ, List.set_cons_zero])
        refine wpE_take (i := 6) (oi := { dst := some 98, op := Go.Op.move (Go.Operand.tmp 0), type := 42, pos := "engine.go:192", after := #[], guard := none }) (v := ?_) rfl (by kernel_rfl) (fun _ _ _ h => h) (Or.inl ⟨by rfl, fun W hW => ?_⟩) hS ?_
        rotate_left
        · (have hw1 : W.cell? ⟨e, 1, none⟩ = some (.iface ty rv) := hW); go_simp; (try go_bits); (try rw [if_pos (by omega)]); (try with_reducible rfl)
        (try simp only [Act.put, List.setIfInBounds_toArray, List.set_cons_succ, List.set_cons_zero])
        refine wpE_take (i := 8) (oi := { dst := some 100, op := Go.Op.nilCheck (Go.Operand.tmp 95), type := 108, pos := "engine.go:192", after := #[{ on := 3, ground := Go.Ground.data }], guard := none }) (v := ?_) rfl (by kernel_rfl) (fun _ _ _ h => h) (Or.inl ⟨by rfl, fun W hW => ?_⟩) hS ?_
        rotate_left
        · (have hw1 : W.cell? ⟨e, 1, none⟩ = some (.iface ty rv) := hW); go_simp; (try go_bits); (try rw [if_pos (by omega)]); (try with_reducible rfl)
        (try simp only [Act.put, List.setIfInBounds_toArray, List.set_cons_succ, List.set_cons_zero])
        refine wpE_take (i := 9) (oi := { dst := some 101, op := Go.Op.move (Go.Operand.tmp 95), type := 108, pos := "engine.go:192", after := #[{ on := 3, ground := Go.Ground.data }, { on := 8, ground := Go.Ground.data }], guard := none }) (v := ?_) rfl (by kernel_rfl) (fun _ _ _ h => h) (Or.inl ⟨by rfl, fun W hW => ?_⟩) hS ?_
        rotate_left
        · (have hw1 : W.cell? ⟨e, 1, none⟩ = some (.iface ty rv) := hW); go_simp; (try go_bits); (try rw [if_pos (by omega)]); (try with_reducible rfl)
        (try simp only [Act.put, List.setIfInBounds_toArray, List.set_cons_succ, List.set_cons_zero])
        refine wpE_only (i := 5) (oi := { dst := some 97, op := Go.Op.call { callee := Go.Callee.value (Go.Operand.func 42), args := #[Go.Operand.tmp 96], argTypes := #[42] }, type := 23, pos := "engine.go:192", after := #[{ on := 4, ground := Go.Ground.data }], guard := none }) rfl (by kernel_rfl) (by rfl) (fun K hK => ?_)
        go_simp; refine HM2.out.mono ?_; rintro x wz ⟨rfl, rfl⟩; refine hK _ _ hS ?_; clear hK K
        (try simp only [Act.put, List.setIfInBounds_toArray, List.set_cons_succ, List.set_cons_zero])
        refine wpE_only (i := 7) (oi := { dst := some 99, op := Go.Op.call { callee := Go.Callee.value (Go.Operand.func 43), args := #[Go.Operand.tmp 98], argTypes := #[42] }, type := 23, pos := "engine.go:192", after := #[{ on := 6, ground := Go.Ground.data }, { on := 5, ground := Go.Ground.chain }], guard := none }) rfl (by kernel_rfl) (by rfl) (fun K hK => ?_)
        go_simp; refine HD.out.mono ?_; rintro x wz ⟨rfl, rfl⟩; refine hK _ _ hS ?_; clear hK K
        (try simp only [Act.put, List.setIfInBounds_toArray, List.set_cons_succ, List.set_cons_zero])
        refine wpE_only (i := 10) (oi := { dst := some 102, op := Go.Op.call { callee := Go.Callee.invoke (Go.Operand.tmp 101) "citadel/engine.message", args := #[Go.Operand.tmp 97, Go.Operand.tmp 99], argTypes := #[23, 23] }, type := 61, pos := "engine.go:192", after := #[{ on := 9, ground := Go.Ground.data }, { on := 5, ground := Go.Ground.data }, { on := 7, ground := Go.Ground.data }, { on := 7, ground := Go.Ground.chain }], guard := none }) rfl (by kernel_rfl) (by rfl) (fun K hK => ?_)
        go_simp; rw [HG.m2]; simp only [Result.andThen]; rw [HG.c2, Oper.upon_enter]; refine HW.out.mono ?_; rintro x w9 ⟨rfl, own9, hS9, hV9⟩
        have hE9 := HP.out.call HG.hC hS9 hV9
        obtain ⟨q0, q1, q3, q4, _⟩ := hE9.eg.cells
        obtain ⟨l0, l1, g0, g1, ll⟩ := hE9.loc
        have HE9 := Lib.hid (hE9.lset hV (R 1).1 (R 1).2.1)
        clear HP HW HM2 HD hS9 hV9 hE9 hS
        have hS : (fun (W' : World) => W'.cell? ⟨e, 1, none⟩ = some (.iface ty rv)) w9 := q1
        refine hK _ _ hS ?_; clear hK K
        (try simp only [Act.put, List.setIfInBounds_toArray, List.set_cons_succ, List.set_cons_zero])
        refine wpE_take (i := 11) (oi := { dst := some 103, op := Go.Op.extract (Go.Operand.tmp 102) 0, type := 47, pos := "engine.go:192", after := #[{ on := 10, ground := Go.Ground.data }], guard := none }) (v := ?_) rfl (by kernel_rfl) (fun _ _ _ h => h) (Or.inl ⟨by rfl, fun W hW => ?_⟩) hS ?_
        rotate_left
        · (have hw1 : W.cell? ⟨e, 1, none⟩ = some (.iface ty rv) := hW); go_simp; (try go_bits); (try rw [if_pos (by omega)]); (try with_reducible rfl)
        (try simp only [Act.put, List.setIfInBounds_toArray, List.set_cons_succ, List.set_cons_zero])
        refine wpE_take (i := 12) (oi := { dst := some 104, op := Go.Op.extract (Go.Operand.tmp 102) 1, type := 4, pos := "engine.go:192", after := #[{ on := 10, ground := Go.Ground.data }], guard := none }) (v := ?_) rfl (by kernel_rfl) (fun _ _ _ h => h) (Or.inl ⟨by rfl, fun W hW => ?_⟩) hS ?_
        rotate_left
        · (have hw1 : W.cell? ⟨e, 1, none⟩ = some (.iface ty rv) := hW); go_simp; (try go_bits); (try rw [if_pos (by omega)]); (try with_reducible rfl)
        (try simp only [Act.put, List.setIfInBounds_toArray, List.set_cons_succ, List.set_cons_zero])
        refine wpE_only (i := 13) (oi := { dst := none, op := Go.Op.store 47 (Go.Operand.tmp 2) (Go.Operand.tmp 103), type := 0, pos := "engine.go:192", after := #[{ on := 11, ground := Go.Ground.data }, { on := 10, ground := Go.Ground.chain }, { on := 0, ground := Go.Ground.phase }, { on := 1, ground := Go.Ground.phase }, { on := 2, ground := Go.Ground.phase }, { on := 3, ground := Go.Ground.phase }, { on := 4, ground := Go.Ground.phase }, { on := 5, ground := Go.Ground.phase }, { on := 6, ground := Go.Ground.phase }, { on := 7, ground := Go.Ground.phase }, { on := 8, ground := Go.Ground.phase }, { on := 9, ground := Go.Ground.phase }, { on := 10, ground := Go.Ground.phase }, { on := 11, ground := Go.Ground.phase }, { on := 12, ground := Go.Ground.phase }], guard := none }) rfl (by kernel_rfl) (by rfl) (fun K hK => ?_)
        go_simp
        have hS : (fun (W' : World) => W'.cell? ⟨e, 1, none⟩ = some (.iface ty rv)) ((w9.setCell ⟨lb, 0, none⟩ (.int .i64 (R 1).1)).setCell ⟨lb, 1, none⟩ (.int .i64 (R 1).2.1)) := by show World.cell? _ _ = _; go_simp
        refine hK _ _ hS ?_; clear hK K
        (try simp only [Act.put, List.setIfInBounds_toArray, List.set_cons_succ, List.set_cons_zero])
        refine wpE_last (oi := { dst := some 3, op := Go.Op.assign (Go.Operand.tmp 104), type := 4, pos := "engine.go:192", after := #[{ on := 12, ground := Go.Ground.data }, { on := 13, ground := Go.Ground.chain }, { on := 0, ground := Go.Ground.phase }, { on := 1, ground := Go.Ground.phase }, { on := 2, ground := Go.Ground.phase }, { on := 3, ground := Go.Ground.phase }, { on := 4, ground := Go.Ground.phase }, { on := 5, ground := Go.Ground.phase }, { on := 6, ground := Go.Ground.phase }, { on := 7, ground := Go.Ground.phase }, { on := 8, ground := Go.Ground.phase }, { on := 9, ground := Go.Ground.phase }, { on := 10, ground := Go.Ground.phase }, { on := 11, ground := Go.Ground.phase }, { on := 12, ground := Go.Ground.phase }, { on := 13, ground := Go.Ground.phase }], guard := none }) rfl (by kernel_rfl) (by kernel_rfl) (by rfl) (fun K hK => ?_)
        go_simp; (try go_bits); refine hK _ _ ?_; clear hK K
        go_wp2
        refine bodyPost_ret (results_cell_tmp_row rfl _ _ lb 47 #[.int .i64 (R 1).1, .int .i64 (R 1).2.1] _ rfl HE9.out.2.2.2 Tryz.underlying47 rfl (by kernel_rfl)) rfl ?_
        rw [HX.out.1, HX.out.2.1, HX.out.2.2]
        exact ⟨rfl, _, HE9.out.1, HE9.out.2.1, HE9.out.2.2.1⟩
    | true =>
      have hEd := hE.drew hV
      have HS := Lib.hid (eng_dst hEd.eg)
      have hA := HG.A2 rfl _ _ hEd.v
      rw [wrapN] at hA
      have HA := Lib.hid hA
      obtain ⟨k0, k1, k3, k4, z3, z4, kl⟩ := hE.eg.cells
      have hr8 := hok.rg 8
      have HE := Lib.hid hEd
      clear hE hEd hA hS
      have hS : (fun (W' : World) => W'.cell? ⟨e, 1, none⟩ = some (.iface ty rv) ∧ W'.cell? ⟨e, 4, none⟩ = some (.int .u64 (s.cp : Int))) w2 := ⟨k1, k4⟩
      go_wp2_with fail
      refine wpE_region (S := fun (W' : World) => W'.cell? ⟨e, 1, none⟩ = some (.iface ty rv) ∧ W'.cell? ⟨e, 4, none⟩ = some (.int .u64 (s.cp : Int))) (s := 18) (by kernel_rfl) ?_
      have hS : (fun (W' : World) => W'.cell? ⟨e, 1, none⟩ = some (.iface ty rv) ∧ W'.cell? ⟨e, 4, none⟩ = some (.int .u64 (s.cp : Int))) _ := hS
      refine wpE_take (i := 0) (oi := { dst := some 32, op := Go.Op.move (Go.Operand.tmp 0), type := 42, pos := "engine.go:177", after := #[], guard := none }) (v := ?_) rfl (by kernel_rfl) (fun _ _ _ h => h) (Or.inl ⟨by rfl, fun W hW => ?_⟩) hS ?_
      rotate_left
      · obtain ⟨hw1, hw2⟩ := hW; go_simp; (try go_bits); (try rw [if_pos (by omega)]); (try with_reducible rfl)
      (try simp only [Act.put, List.setIfInBounds_toArray, List.set_cons_succ, List.set_cons_zero])
      refine wpE_take (i := 1) (oi := { dst := some 33, op := Go.Op.nilCheck (Go.Operand.tmp 32), type := 0, pos := "engine.go:177", after := #[{ on := 0, ground := Go.Ground.data }], guard := none }) (v := ?_) rfl (by kernel_rfl) (fun _ _ _ h => h) (Or.inl ⟨by rfl, fun W hW => ?_⟩) hS ?_
      rotate_left
      · obtain ⟨hw1, hw2⟩ := hW; go_simp; (try go_bits); (try rw [if_pos (by omega)]); (try with_reducible rfl)
      (try simp only [Act.put, List.setIfInBounds_toArray, List.set_cons_succ, List.set_cons_zero])
      refine wpE_take (i := 2) (oi := { dst := some 34, op := Go.Op.fieldAddr 123 (Go.Operand.tmp 33) 1, type := 0, pos := "engine.go:177", after := #[{ on := 1, ground := Go.Ground.data }], guard := none }) (v := ?_) rfl (by kernel_rfl) (fun _ _ _ h => h) (Or.inl ⟨by rfl, fun W hW => ?_⟩) hS ?_
      rotate_left
      · obtain ⟨hw1, hw2⟩ := hW; go_simp; (try go_bits); (try rw [if_pos (by omega)]); (try with_reducible rfl)
      (try simp only [Act.put, List.setIfInBounds_toArray, List.set_cons_succ, List.set_cons_zero])
      refine wpE_take (i := 3) (oi := { dst := some 35, op := Go.Op.load 108 (Go.Operand.tmp 34), type := 108, pos := "engine.go:177", after := #[{ on := 2, ground := Go.Ground.data }], guard := none }) (v := ?_) rfl (by kernel_rfl) (fun _ _ _ h => h) (Or.inl ⟨by rfl, fun W hW => ?_⟩) hS ?_
      rotate_left
      · obtain ⟨hw1, hw2⟩ := hW; go_simp; (try go_bits); (try rw [if_pos (by omega)]); (try with_reducible rfl)
      (try simp only [Act.put, List.setIfInBounds_toArray, List.set_cons_succ, List.set_cons_zero])
      refine wpE_take (i := 4) (oi := { dst := some 36, op := Go.Op.move (Go.Operand.tmp 0), type := 42, pos := "engine.go:177", after := #[], guard := none }) (v := ?_) rfl (by kernel_rfl) (fun _ _ _ h => h) (Or.inl ⟨by rfl, fun W hW => ?_⟩) hS ?_
      rotate_left
      · obtain ⟨hw1, hw2⟩ := hW; go_simp; (try go_bits); (try rw [if_pos (by omega)]); (try with_reducible rfl)
      (try simp only [Act.put, List.setIfInBounds_toArray, List.set_cons_succ, List.set_cons_zero])
      refine wpE_take (i := 6) (oi := { dst := some 38, op := Go.Op.move (Go.Operand.tmp 0), type := 42, pos := "engine.go:177", after := #[], guard := none }) (v := ?_) rfl (by kernel_rfl) (fun _ _ _ h => h) (Or.inl ⟨by rfl, fun W hW => ?_⟩) hS ?_
      rotate_left
      · obtain ⟨hw1, hw2⟩ := hW; go_simp; (try go_bits); (try rw [if_pos (by omega)]); (try with_reducible rfl)
      (try simp only [Act.put, List.setIfInBounds_toArray, List.set_cons_succ, List.set_cons_zero])
      refine wpE_take (i := 7) (oi := { dst := some 39, op := Go.Op.nilCheck (Go.Operand.tmp 38), type := 0, pos := "engine.go:177", after := #[{ on := 6, ground := Go.Ground.data }], guard := none }) (v := ?_) rfl (by kernel_rfl) (fun _ _ _ h => h) (Or.inl ⟨by rfl, fun W hW => ?_⟩) hS ?_
      rotate_left
      · obtain ⟨hw1, hw2⟩ := hW; go_simp; (try go_bits); (try rw [if_pos (by omega)]); (try with_reducible rfl)
      (try simp only [Act.put, List.setIfInBounds_toArray, List.set_cons_succ, List.set_cons_zero])
      refine wpE_take (i := 8) (oi := { dst := some 40, op := Go.Op.fieldAddr 123 (Go.Operand.tmp 39) 4, type := 0, pos := "engine.go:177", after := #[{ on := 7, ground := Go.Ground.data }], guard := none }) (v := ?_) rfl (by kernel_rfl) (fun _ _ _ h => h) (Or.inl ⟨by rfl, fun W hW => ?_⟩) hS ?_
      rotate_left
      · obtain ⟨hw1, hw2⟩ := hW; go_simp; (try go_bits); (try rw [if_pos (by omega)]); (try with_reducible rfl)
      (try simp only [Act.put, List.setIfInBounds_toArray, List.set_cons_succ, List.set_cons_zero])
      refine wpE_take (i := 9) (oi := { dst := some 41, op := Go.Op.load 23 (Go.Operand.tmp 40), type := 23, pos := "engine.go:177", after := #[{ on := 8, ground := Go.Ground.data }], guard := none }) (v := ?_) rfl (by kernel_rfl) (fun _ _ _ h => h) (Or.inl ⟨by rfl, fun W hW => ?_⟩) hS ?_
      rotate_left
      · obtain ⟨hw1, hw2⟩ := hW; go_simp; (try go_bits); (try rw [if_pos (by omega)]); (try with_reducible rfl)
      (try simp only [Act.put, List.setIfInBounds_toArray, List.set_cons_succ, List.set_cons_zero])
      refine wpE_take (i := 11) (oi := { dst := some 43, op := Go.Op.nilCheck (Go.Operand.tmp 35), type := 108, pos := "engine.go:177", after := #[{ on := 3, ground := Go.Ground.data }], guard := none }) (v := ?_) rfl (by kernel_rfl) (fun _ _ _ h => h) (Or.inl ⟨by rfl, fun W hW => ?_⟩) hS ?_
      rotate_left
      · obtain ⟨hw1, hw2⟩ := hW; go_simp; (try go_bits); (try rw [if_pos (by omega)]); (try with_reducible rfl)
      (try simp only [Act.put, List.setIfInBounds_toArray, List.set_cons_succ, List.set_cons_zero])
      refine wpE_take (i := 12) (oi := { dst := some 44, op := Go.Op.move (Go.Operand.tmp 35), type := 108, pos := "engine.go:177", after := #[{ on := 3, ground := Go.Ground.data }, { on := 11, ground := Go.Ground.data }], guard := none }) (v := ?_) rfl (by kernel_rfl) (fun _ _ _ h => h) (Or.inl ⟨by rfl, fun W hW => ?_⟩) hS ?_
      rotate_left
      · obtain ⟨hw1, hw2⟩ := hW; go_simp; (try go_bits); (try rw [if_pos (by omega)]); (try with_reducible rfl)
      (try simp only [Act.put, List.setIfInBounds_toArray, List.set_cons_succ, List.set_cons_zero])
      refine wpE_only (i := 5) (oi := { dst := some 37, op := Go.Op.call { callee := Go.Callee.value (Go.Operand.func 39), args := #[Go.Operand.tmp 36], argTypes := #[42] }, type := 23, pos := "engine.go:177", after := #[{ on := 4, ground := Go.Ground.data }], guard := none }) rfl (by kernel_rfl) (by rfl) (fun K hK => ?_)
      go_simp; refine HS.out.mono ?_; rintro x wz ⟨rfl, rfl⟩; refine hK _ _ hS ?_; clear hK K
      (try simp only [Act.put, List.setIfInBounds_toArray, List.set_cons_succ, List.set_cons_zero])
      refine wpE_take (i := 10) (oi := { dst := some 42, op := Go.Op.binOp Go.BinOp.add 23 (Go.Operand.tmp 37) (Go.Operand.tmp 41) 23, type := 23, pos := "engine.go:177", after := #[{ on := 5, ground := Go.Ground.data }, { on := 9, ground := Go.Ground.data }], guard := none }) (v := ?_) rfl (by kernel_rfl) (fun _ _ _ h => h) (Or.inl ⟨by rfl, fun W hW => ?_⟩) hS ?_
      rotate_left
      · obtain ⟨hw1, hw2⟩ := hW; go_simp; (try go_bits); (try rw [if_pos (by omega)]); (try with_reducible rfl)
      (try simp only [Act.put, List.setIfInBounds_toArray, List.set_cons_succ, List.set_cons_zero])
      refine wpE_only (i := 13) (oi := { dst := some 45, op := Go.Op.call { callee := Go.Callee.invoke (Go.Operand.tmp 44) "citadel/engine.access", args := #[Go.Operand.tmp 42, Go.Operand.const (Go.Value.bool true)], argTypes := #[23, 4] }, type := 52, pos := "engine.go:177", after := #[{ on := 12, ground := Go.Ground.data }, { on := 10, ground := Go.Ground.data }, { on := 5, ground := Go.Ground.chain }], guard := none }) rfl (by kernel_rfl) (by rfl) (fun K hK => ?_)
      go_simp; rw [HG.m1]; simp only [Result.andThen]; rw [HG.c1, Oper.upon_enter]; refine HA.out.mono ?_; rintro x w3 ⟨rfl, own3, hS3, hV3⟩
      have hE3 := HE.out.call HG.hC hS3 hV3
      obtain ⟨y0, y1, y3, y4, _⟩ := hE3.eg.cells
      have HE3 := Lib.hid hE3
      clear HE HA hS3 hV3 hE3 hS
      have hS : (fun (W' : World) => W'.cell? ⟨e, 1, none⟩ = some (.iface ty rv) ∧ W'.cell? ⟨e, 4, none⟩ = some (.int .u64 (s.cp : Int))) w3 := ⟨y1, y4⟩
      refine hK _ _ hS ?_; clear hK K
      (try simp only [Act.put, List.setIfInBounds_toArray, List.set_cons_succ, List.set_cons_zero])
      refine wpE_take (i := 14) (oi := { dst := some 31, op := Go.Op.move (Go.Operand.tmp 45), type := 52, pos := "engine.go:177", after := #[{ on := 13, ground := Go.Ground.data }], guard := none }) (v := ?_) rfl (by kernel_rfl) (fun _ _ _ h => h) (Or.inl ⟨by rfl, fun W hW => ?_⟩) hS ?_
      rotate_left
      · obtain ⟨hw1, hw2⟩ := hW; go_simp; (try go_bits); (try rw [if_pos (by omega)]); (try with_reducible rfl)
      (try simp only [Act.put, List.setIfInBounds_toArray, List.set_cons_succ, List.set_cons_zero])
      refine wpE_take (i := 15) (oi := { dst := some 46, op := Go.Op.extract (Go.Operand.tmp 31) 0, type := 23, pos := "engine.go:177", after := #[{ on := 14, ground := Go.Ground.data }], guard := none }) (v := ?_) rfl (by kernel_rfl) (fun _ _ _ h => h) (Or.inl ⟨by rfl, fun W hW => ?_⟩) hS ?_
      rotate_left
      · obtain ⟨hw1, hw2⟩ := hW; go_simp; (try go_bits); (try rw [if_pos (by omega)]); (try with_reducible rfl)
      (try simp only [Act.put, List.setIfInBounds_toArray, List.set_cons_succ, List.set_cons_zero])
      refine wpE_take (i := 16) (oi := { dst := some 47, op := Go.Op.extract (Go.Operand.tmp 31) 1, type := 4, pos := "engine.go:177", after := #[{ on := 14, ground := Go.Ground.data }, { on := 17, ground := Go.Ground.gcOnly Go.Departure.lateStores }], guard := none }) (v := ?_) rfl (by kernel_rfl) (fun _ _ _ h => h) (Or.inl ⟨by rfl, fun W hW => ?_⟩) hS ?_
      rotate_left
      · obtain ⟨hw1, hw2⟩ := hW; go_simp; (try go_bits); (try rw [if_pos (by omega)]); (try with_reducible rfl)
      (try simp only [Act.put, List.setIfInBounds_toArray, List.set_cons_succ, List.set_cons_zero])
      refine wpE_only (i := 17) (oi := { dst := some 6, op := Go.Op.assign (Go.Operand.tmp 46), type := 23, pos := "engine.go:177", after := #[{ on := 15, ground := Go.Ground.data }, { on := 13, ground := Go.Ground.chain }, { on := 0, ground := Go.Ground.phase }, { on := 1, ground := Go.Ground.phase }, { on := 2, ground := Go.Ground.phase }, { on := 3, ground := Go.Ground.phase }, { on := 4, ground := Go.Ground.phase }, { on := 5, ground := Go.Ground.phase }, { on := 6, ground := Go.Ground.phase }, { on := 7, ground := Go.Ground.phase }, { on := 8, ground := Go.Ground.phase }, { on := 9, ground := Go.Ground.phase }, { on := 10, ground := Go.Ground.phase }, { on := 11, ground := Go.Ground.phase }, { on := 12, ground := Go.Ground.phase }, { on := 13, ground := Go.Ground.phase }, { on := 14, ground := Go.Ground.phase }, { on := 15, ground := Go.Ground.phase }, { on := 16, ground := Go.Ground.textOnly Go.Departure.lateStores }], guard := none }) rfl (by kernel_rfl) (by rfl) (fun K hK => ?_)
      go_simp; (try go_bits); refine hK _ _ hS ?_; clear hK K
      (try simp only [Act.put, List.setIfInBounds_toArray, List.set_cons_succ, List.set_cons_zero])
      refine wpE_last (oi := { dst := some 5, op := Go.Op.assign (Go.Operand.tmp 47), type := 4, pos := "engine.go:177", after := #[{ on := 16, ground := Go.Ground.data }, { on := 17, ground := Go.Ground.chain }, { on := 0, ground := Go.Ground.phase }, { on := 1, ground := Go.Ground.phase }, { on := 2, ground := Go.Ground.phase }, { on := 3, ground := Go.Ground.phase }, { on := 4, ground := Go.Ground.phase }, { on := 5, ground := Go.Ground.phase }, { on := 6, ground := Go.Ground.phase }, { on := 7, ground := Go.Ground.phase }, { on := 8, ground := Go.Ground.phase }, { on := 9, ground := Go.Ground.phase }, { on := 10, ground := Go.Ground.phase }, { on := 11, ground := Go.Ground.phase }, { on := 12, ground := Go.Ground.phase }, { on := 13, ground := Go.Ground.phase }, { on := 14, ground := Go.Ground.phase }, { on := 15, ground := Go.Ground.phase }, { on := 16, ground := Go.Ground.phase }, { on := 17, ground := Go.Ground.phase }], guard := none }) rfl (by kernel_rfl) (by kernel_rfl) (by rfl) (fun K hK => ?_)
      go_simp; (try go_bits); refine hK _ _ ?_; clear hK K
      clear hS HS
      have hE := HE3.out
      clear HE3 y0 y1 y3 y4 k0 k1 k3 k4 z3 z4 kl
      cases o2 with
      | false =>
        have hnx : nextE s true false = { s with st := 3 } := by unfold nextE; rw [if_pos hs]; rfl
        have hp1 := hE.put (s' := { s with st := 2 }) hV 3 (.int .u64 2) (fun _ _ _ => rfl) rfl
        have hp2 := hp1.put (s' := { s with st := 3 }) hV 3 (.int .u64 3) (fun _ _ _ => rfl) rfl
        obtain ⟨k0, k1, k3, k4, z3, z4, kl⟩ := hE.eg.cells
        obtain ⟨l0, l1, g0, g1, ll⟩ := hE.loc
        have hne := hE.ne
        generalize w.heap.size = lb at *
        have HM := Lib.hid (eng_msi hp2.eg)
        by_cases h40 : s.rg 40 = 0
        · have e40 : ((s.rg 40 : Int) == 0) = true := by rw [h40]; rfl
          have HX := Lib.hid (show resE s true false R = (0, 0, false) ∧ whichE s true false = 2 ∧ nextE s true false = { s with st := 3 } from ⟨by simp [resE, hs, hnx, h40], by simp [whichE, hs, hnx, h40, atE], hnx⟩)
          have HP := Lib.hid (hp2.lset hV 0 0)
          clear hE hp1 hp2 h40 hs hnx
          go_wp2_with fail
          ((with_reducible refine HM.out.mono ?_); rintro x wz ⟨rfl, rfl⟩)
          clear HM
          go_wp2
          refine bodyPost_ret (results_cell_tmp_row rfl _ _ lb 47 #[.int .i64 0, .int .i64 0] _ rfl HP.out.2.2.2 Tryz.underlying47 rfl (by kernel_rfl)) rfl ?_
          rw [HX.out.1, HX.out.2.1, HX.out.2.2]
          exact ⟨rfl, _, HP.out.1, HP.out.2.1, HP.out.2.2.1⟩
        · have e40 : ((s.rg 40 : Int) == 0) = false := by simp; omega
          have HX := Lib.hid (show resE s true false R = R 2 ∧ whichE s true false = 2 + 10 ∧ nextE s true false = { s with st := 3 } from ⟨by simp [resE, hs, hnx, h40, atE], by simp [whichE, hs, hnx, h40, atE], hnx⟩)
          have hpd := hp2.drew hV
          have HM2 := Lib.hid (eng_msi hpd.eg)
          have HD := Lib.hid (eng_data hpd.eg)
          have HW := Lib.hid (HG.ms 2 rfl _ _ hpd.v)
          obtain ⟨y0, y1, y3, y4, _⟩ := hpd.eg.cells
          have HP := Lib.hid hpd
          clear hE hp1 hp2 hpd h40 hs hnx
          go_wp2_with fail
          ((with_reducible refine HM.out.mono ?_); rintro x wz ⟨rfl, rfl⟩)
          clear HM
          go_wp2_with fail
          refine wpE_region (S := fun (W' : World) => W'.cell? ⟨e, 1, none⟩ = some (.iface ty rv)) (s := 14) (by kernel_rfl) ?_
          have hS : (fun (W' : World) => W'.cell? ⟨e, 1, none⟩ = some (.iface ty rv)) _ := y1
          refine wpE_take (i := 0) (oi := { dst := some 92, op := Go.Op.move (Go.Operand.tmp 0), type := 42, pos := "engine.go:192", after := #[], guard := none }) (v := ?_) rfl (by kernel_rfl) (fun _ _ _ h => h) (Or.inl ⟨by rfl, fun W hW => ?_⟩) hS ?_
          rotate_left
          · (have hw1 : W.cell? ⟨e, 1, none⟩ = some (.iface ty rv) := hW); go_simp; (try go_bits); (try rw [if_pos (by omega)]); (try with_reducible rfl)
          (try simp only [Act.put, List.setIfInBounds_toArray, List.set_cons_succ, List.set_cons_zero])
          refine wpE_take (i := 1) (oi := { dst := some 93, op := Go.Op.nilCheck (Go.Operand.tmp 92), type := 0, pos := "engine.go:192", after := #[{ on := 0, ground := Go.Ground.data }], guard := none }) (v := ?_) rfl (by kernel_rfl) (fun _ _ _ h => h) (Or.inl ⟨by rfl, fun W hW => ?_⟩) hS ?_
          rotate_left
          · (have hw1 : W.cell? ⟨e, 1, none⟩ = some (.iface ty rv) := hW); go_simp; (try go_bits); (try rw [if_pos (by omega)]); (try with_reducible rfl)
          (try simp only [Act.put, List.setIfInBounds_toArray, List.set_cons_succ, List.set_cons_zero])
          refine wpE_take (i := 2) (oi := { dst := some 94, op := Go.Op.fieldAddr 123 (Go.Operand.tmp 93) 1, type := 0, pos := "engine.go:192", after := #[{ on := 1, ground := Go.Ground.data }], guard := none }) (v := ?_) rfl (by kernel_rfl) (fun _ _ _ h => h) (Or.inl ⟨by rfl, fun W hW => ?_⟩) hS ?_
          rotate_left
          · (have hw1 : W.cell? ⟨e, 1, none⟩ = some (.iface ty rv) := hW); go_simp; (try go_bits); (try rw [if_pos (by omega)]); (try with_reducible rfl)
          (try simp only [Act.put, List.setIfInBounds_toArray, List.set_cons_succ, List.set_cons_zero])
          refine wpE_take (i := 3) (oi := { dst := some 95, op := Go.Op.load 108 (Go.Operand.tmp 94), type := 108, pos := "engine.go:192", after := #[{ on := 2, ground := Go.Ground.data }], guard := none }) (v := ?_) rfl (by kernel_rfl) (fun _ _ _ h => h) (Or.inl ⟨by rfl, fun W hW => ?_⟩) hS ?_
          rotate_left
          · (have hw1 : W.cell? ⟨e, 1, none⟩ = some (.iface ty rv) := hW); go_simp; (try go_bits); (try rw [if_pos (by omega)]); (try with_reducible rfl)
          (try simp only [Act.put, List.setIfInBounds_toArray, List.set_cons_succ, List.set_cons_zero])
          refine wpE_take (i := 4) (oi := { dst := some 96, op := Go.Op.move (Go.Operand.tmp 0), type := 42, pos := "engine.go:192", after := #[], guard := none }) (v := ?_) rfl (by kernel_rfl) (fun _ _ _ h => h) (Or.inl ⟨by rfl, fun W hW => ?_⟩) hS ?_
          rotate_left
          · (have hw1 : W.cell? ⟨e, 1, none⟩ = some (.iface ty rv) := hW); go_simp; (try go_bits); (try rw [if_pos (by omega)]); (try with_reducible rfl)
          (try simp only [Act.put, List.setIfInBounds_toArray, List.set_cons_succ, List.set_cons_zero])
          refine wpE_take (i := 6) (oi := { dst := some 98, op := Go.Op.move (Go.Operand.tmp 0), type := 42, pos := "engine.go:192", after := #[], guard := none }) (v := ?_) rfl (by kernel_rfl) (fun _ _ _ h => h) (Or.inl ⟨by rfl, fun W hW => ?_⟩) hS ?_
          rotate_left
          · (have hw1 : W.cell? ⟨e, 1, none⟩ = some (.iface ty rv) := hW); go_simp; (try go_bits); (try rw [if_pos (by omega)]); (try with_reducible rfl)
          (try simp only [Act.put, List.setIfInBounds_toArray, List.set_cons_succ, List.set_cons_zero])
          refine wpE_take (i := 8) (oi := { dst := some 100, op := Go.Op.nilCheck (Go.Operand.tmp 95), type := 108, pos := "engine.go:192", after := #[{ on := 3, ground := Go.Ground.data }], guard := none }) (v := ?_) rfl (by kernel_rfl) (fun _ _ _ h => h) (Or.inl ⟨by rfl, fun W hW => ?_⟩) hS ?_
          rotate_left
          · (have hw1 : W.cell? ⟨e, 1, none⟩ = some (.iface ty rv) := hW); go_simp; (try go_bits); (try rw [if_pos (by omega)]); (try with_reducible rfl)
          (try simp only [Act.put, List.setIfInBounds_toArray, List.set_cons_succ, List.set_cons_zero])
          refine wpE_take (i := 9) (oi := { dst := some 101, op := Go.Op.move (Go.Operand.tmp 95), type := 108, pos := "engine.go:192", after := #[{ on := 3, ground := Go.Ground.data }, { on := 8, ground := Go.Ground.data }], guard := none }) (v := ?_) rfl (by kernel_rfl) (fun _ _ _ h => h) (Or.inl ⟨by rfl, fun W hW => ?_⟩) hS ?_
          rotate_left
          · (have hw1 : W.cell? ⟨e, 1, none⟩ = some (.iface ty rv) := hW); go_simp; (try go_bits); (try rw [if_pos (by omega)]); (try with_reducible rfl)
          (try simp only [Act.put, List.setIfInBounds_toArray, List.set_cons_succ, List.set_cons_zero])
          refine wpE_only (i := 5) (oi := { dst := some 97, op := Go.Op.call { callee := Go.Callee.value (Go.Operand.func 42), args := #[Go.Operand.tmp 96], argTypes := #[42] }, type := 23, pos := "engine.go:192", after := #[{ on := 4, ground := Go.Ground.data }], guard := none }) rfl (by kernel_rfl) (by rfl) (fun K hK => ?_)
          go_simp; refine HM2.out.mono ?_; rintro x wz ⟨rfl, rfl⟩; refine hK _ _ hS ?_; clear hK K
          (try simp only [Act.put, List.setIfInBounds_toArray, List.set_cons_succ, List.set_cons_zero])
          refine wpE_only (i := 7) (oi := { dst := some 99, op := Go.Op.call { callee := Go.Callee.value (Go.Operand.func 43), args := #[Go.Operand.tmp 98], argTypes := #[42] }, type := 23, pos := "engine.go:192", after := #[{ on := 6, ground := Go.Ground.data }, { on := 5, ground := Go.Ground.chain }], guard := none }) rfl (by kernel_rfl) (by rfl) (fun K hK => ?_)
          go_simp; refine HD.out.mono ?_; rintro x wz ⟨rfl, rfl⟩; refine hK _ _ hS ?_; clear hK K
          (try simp only [Act.put, List.setIfInBounds_toArray, List.set_cons_succ, List.set_cons_zero])
          refine wpE_only (i := 10) (oi := { dst := some 102, op := Go.Op.call { callee := Go.Callee.invoke (Go.Operand.tmp 101) "citadel/engine.message", args := #[Go.Operand.tmp 97, Go.Operand.tmp 99], argTypes := #[23, 23] }, type := 61, pos := "engine.go:192", after := #[{ on := 9, ground := Go.Ground.data }, { on := 5, ground := Go.Ground.data }, { on := 7, ground := Go.Ground.data }, { on := 7, ground := Go.Ground.chain }], guard := none }) rfl (by kernel_rfl) (by rfl) (fun K hK => ?_)
          go_simp; rw [HG.m2]; simp only [Result.andThen]; rw [HG.c2, Oper.upon_enter]; refine HW.out.mono ?_; rintro x w9 ⟨rfl, own9, hS9, hV9⟩
          have hE9 := HP.out.call HG.hC hS9 hV9
          obtain ⟨q0, q1, q3, q4, _⟩ := hE9.eg.cells
          obtain ⟨l0, l1, g0, g1, ll⟩ := hE9.loc
          have HE9 := Lib.hid (hE9.lset hV (R 2).1 (R 2).2.1)
          clear HP HW HM2 HD hS9 hV9 hE9 hS
          have hS : (fun (W' : World) => W'.cell? ⟨e, 1, none⟩ = some (.iface ty rv)) w9 := q1
          refine hK _ _ hS ?_; clear hK K
          (try simp only [Act.put, List.setIfInBounds_toArray, List.set_cons_succ, List.set_cons_zero])
          refine wpE_take (i := 11) (oi := { dst := some 103, op := Go.Op.extract (Go.Operand.tmp 102) 0, type := 47, pos := "engine.go:192", after := #[{ on := 10, ground := Go.Ground.data }], guard := none }) (v := ?_) rfl (by kernel_rfl) (fun _ _ _ h => h) (Or.inl ⟨by rfl, fun W hW => ?_⟩) hS ?_
          rotate_left
          · (have hw1 : W.cell? ⟨e, 1, none⟩ = some (.iface ty rv) := hW); go_simp; (try go_bits); (try rw [if_pos (by omega)]); (try with_reducible rfl)
          (try simp only [Act.put, List.setIfInBounds_toArray, List.set_cons_succ, List.set_cons_zero])
          refine wpE_take (i := 12) (oi := { dst := some 104, op := Go.Op.extract (Go.Operand.tmp 102) 1, type := 4, pos := "engine.go:192", after := #[{ on := 10, ground := Go.Ground.data }], guard := none }) (v := ?_) rfl (by kernel_rfl) (fun _ _ _ h => h) (Or.inl ⟨by rfl, fun W hW => ?_⟩) hS ?_
          rotate_left
          · (have hw1 : W.cell? ⟨e, 1, none⟩ = some (.iface ty rv) := hW); go_simp; (try go_bits); (try rw [if_pos (by omega)]); (try with_reducible rfl)
          (try simp only [Act.put, List.setIfInBounds_toArray, List.set_cons_succ, List.set_cons_zero])
          refine wpE_only (i := 13) (oi := { dst := none, op := Go.Op.store 47 (Go.Operand.tmp 2) (Go.Operand.tmp 103), type := 0, pos := "engine.go:192", after := #[{ on := 11, ground := Go.Ground.data }, { on := 10, ground := Go.Ground.chain }, { on := 0, ground := Go.Ground.phase }, { on := 1, ground := Go.Ground.phase }, { on := 2, ground := Go.Ground.phase }, { on := 3, ground := Go.Ground.phase }, { on := 4, ground := Go.Ground.phase }, { on := 5, ground := Go.Ground.phase }, { on := 6, ground := Go.Ground.phase }, { on := 7, ground := Go.Ground.phase }, { on := 8, ground := Go.Ground.phase }, { on := 9, ground := Go.Ground.phase }, { on := 10, ground := Go.Ground.phase }, { on := 11, ground := Go.Ground.phase }, { on := 12, ground := Go.Ground.phase }], guard := none }) rfl (by kernel_rfl) (by rfl) (fun K hK => ?_)
          go_simp
          have hS : (fun (W' : World) => W'.cell? ⟨e, 1, none⟩ = some (.iface ty rv)) ((w9.setCell ⟨lb, 0, none⟩ (.int .i64 (R 2).1)).setCell ⟨lb, 1, none⟩ (.int .i64 (R 2).2.1)) := by show World.cell? _ _ = _; go_simp
          refine hK _ _ hS ?_; clear hK K
          (try simp only [Act.put, List.setIfInBounds_toArray, List.set_cons_succ, List.set_cons_zero])
          refine wpE_last (oi := { dst := some 3, op := Go.Op.assign (Go.Operand.tmp 104), type := 4, pos := "engine.go:192", after := #[{ on := 12, ground := Go.Ground.data }, { on := 13, ground := Go.Ground.chain }, { on := 0, ground := Go.Ground.phase }, { on := 1, ground := Go.Ground.phase }, { on := 2, ground := Go.Ground.phase }, { on := 3, ground := Go.Ground.phase }, { on := 4, ground := Go.Ground.phase }, { on := 5, ground := Go.Ground.phase }, { on := 6, ground := Go.Ground.phase }, { on := 7, ground := Go.Ground.phase }, { on := 8, ground := Go.Ground.phase }, { on := 9, ground := Go.Ground.phase }, { on := 10, ground := Go.Ground.phase }, { on := 11, ground := Go.Ground.phase }, { on := 12, ground := Go.Ground.phase }, { on := 13, ground := Go.Ground.phase }], guard := none }) rfl (by kernel_rfl) (by kernel_rfl) (by rfl) (fun K hK => ?_)
          go_simp; (try go_bits); refine hK _ _ ?_; clear hK K
          go_wp2
          refine bodyPost_ret (results_cell_tmp_row rfl _ _ lb 47 #[.int .i64 (R 2).1, .int .i64 (R 2).2.1] _ rfl HE9.out.2.2.2 Tryz.underlying47 rfl (by kernel_rfl)) rfl ?_
          rw [HX.out.1, HX.out.2.1, HX.out.2.2]
          exact ⟨rfl, _, HE9.out.1, HE9.out.2.1, HE9.out.2.2.1⟩
      | true =>
        obtain ⟨k0, k1, k3, k4, z3, z4, kl⟩ := hE.eg.cells
        have HRd := Lib.hid (HG.rd rfl rfl _ _ hE.v)
        have HE := Lib.hid hE
        clear hE
        go_wp2_with fail
        ((with_reducible refine HRd.out.mono ?_); rintro x w4 ⟨gd, rfl, own4, hS4, hV4⟩)
        have hE4 := HE.out.call HG.hC hS4 hV4
        clear HE HRd hS4 hV4 k0 k1 k3 k4 z3 z4 kl
        obtain ⟨k0, k1, k3, k4, z3, z4, kl⟩ := hE4.eg.cells
        have HWr := Lib.hid (HG.wr rfl rfl _ _ hE4.v)
        have HE := Lib.hid hE4
        clear hE4
        go_wp2_with fail
        ((with_reducible refine HWr.out.mono ?_); rintro x w5 ⟨gw, rfl, own5, hS5, hV5⟩)
        have hE := HE.out.call HG.hC hS5 hV5
        clear HE HWr hS5 hV5 k0 k1 k3 k4 z3 z4 kl
        obtain ⟨hq1, hq2, hq3, hq4, hq5, hq6⟩ := hok.run hs
        obtain ⟨k0, k1, k3, k4, z3, z4, kl⟩ := hE.eg.cells
        obtain ⟨l0, l1, g0, g1, ll⟩ := hE.loc
        have hne := hE.ne
        have hr16 := hok.rg 16
        have hcp8 : IntKind.u64.wrap ((s.cp : Int) + 8) = ((s.cp + 8 : Nat) : Int) := by rw [IntWalk.u64_in _ (by omega)]; omega
        have hp1 := hE.put (s' := { s with cp := s.cp + 8 }) hV 4 (.int .u64 (IntKind.u64.wrap ((s.cp : Int) + 8))) (fun _ _ _ => by rw [hcp8]; rfl) rfl
        have hp1d := hp1.drew hV
        have HL := Lib.hid (eng_len hp1d.eg)
        have y4 : ((w5.setCell ⟨e, 4, none⟩ (.int .u64 (IntKind.u64.wrap ((s.cp : Int) + 8)))).drew).cell? ⟨e, 4, none⟩ = some (.int .u64 (IntKind.u64.wrap ((s.cp : Int) + 8))) := by rw [hcp8]; rw [hcp8] at hp1d; exact hp1d.eg.cells.2.2.2.1
        generalize w.heap.size = lb at *
        by_cases hlt : s.cp + 8 < s.rg 16
        · have hlt2 : decide (IntKind.u64.wrap ((s.cp : Int) + 8) < (s.rg 16 : Int)) = true := by rw [hcp8]; simp; omega
          have hnx : nextE s true true = { s with cp := s.cp + 8 } := by unfold nextE; rw [if_pos hs]; simp [hlt]
          have HX := Lib.hid (show resE s true true R = (0, 0, false) ∧ whichE s true true = 4 ∧ nextE s true true = { s with cp := s.cp + 8 } from ⟨by simp [resE, hs, hnx], by simp [whichE, hs, hnx, atE], hnx⟩)
          have HP := Lib.hid (hp1d.lset hV 0 0)
          clear hE hp1 hp1d hs hnx hlt hq1 hq2 hq3 hq4 hq5 hq6 hcp8
          go_wp2_with fail
          refine wpE_region (S := fun (W' : World) => W'.cell? ⟨e, 4, none⟩ = some (.int .u64 (IntKind.u64.wrap ((s.cp : Int) + 8)))) (s := 6) (by kernel_rfl) ?_
          have hS : (fun (W' : World) => W'.cell? ⟨e, 4, none⟩ = some (.int .u64 (IntKind.u64.wrap ((s.cp : Int) + 8)))) _ := y4
          refine wpE_take (i := 0) (oi := { dst := some 72, op := Go.Op.move (Go.Operand.tmp 0), type := 42, pos := "engine.go:182", after := #[], guard := none }) (v := ?_) rfl (by kernel_rfl) (fun _ _ _ h => h) (Or.inl ⟨by rfl, fun W hW => ?_⟩) hS ?_
          rotate_left
          · (have hw1 : W.cell? ⟨e, 4, none⟩ = some (.int .u64 (IntKind.u64.wrap ((s.cp : Int) + 8))) := hW); go_simp; (try go_bits); (try rw [if_pos (by omega)]); (try with_reducible rfl)
          (try simp only [Act.put, List.setIfInBounds_toArray, List.set_cons_succ, List.set_cons_zero])
          refine wpE_take (i := 1) (oi := { dst := some 73, op := Go.Op.nilCheck (Go.Operand.tmp 72), type := 0, pos := "engine.go:182", after := #[{ on := 0, ground := Go.Ground.data }], guard := none }) (v := ?_) rfl (by kernel_rfl) (fun _ _ _ h => h) (Or.inl ⟨by rfl, fun W hW => ?_⟩) hS ?_
          rotate_left
          · (have hw1 : W.cell? ⟨e, 4, none⟩ = some (.int .u64 (IntKind.u64.wrap ((s.cp : Int) + 8))) := hW); go_simp; (try go_bits); (try rw [if_pos (by omega)]); (try with_reducible rfl)
          (try simp only [Act.put, List.setIfInBounds_toArray, List.set_cons_succ, List.set_cons_zero])
          refine wpE_take (i := 2) (oi := { dst := some 74, op := Go.Op.fieldAddr 123 (Go.Operand.tmp 73) 4, type := 0, pos := "engine.go:182", after := #[{ on := 1, ground := Go.Ground.data }], guard := none }) (v := ?_) rfl (by kernel_rfl) (fun _ _ _ h => h) (Or.inl ⟨by rfl, fun W hW => ?_⟩) hS ?_
          rotate_left
          · (have hw1 : W.cell? ⟨e, 4, none⟩ = some (.int .u64 (IntKind.u64.wrap ((s.cp : Int) + 8))) := hW); go_simp; (try go_bits); (try rw [if_pos (by omega)]); (try with_reducible rfl)
          (try simp only [Act.put, List.setIfInBounds_toArray, List.set_cons_succ, List.set_cons_zero])
          refine wpE_take (i := 3) (oi := { dst := some 75, op := Go.Op.load 23 (Go.Operand.tmp 74), type := 23, pos := "engine.go:182", after := #[{ on := 2, ground := Go.Ground.data }], guard := none }) (v := ?_) rfl (by kernel_rfl) (fun _ _ _ h => h) (Or.inl ⟨by rfl, fun W hW => ?_⟩) hS ?_
          rotate_left
          · (have hw1 : W.cell? ⟨e, 4, none⟩ = some (.int .u64 (IntKind.u64.wrap ((s.cp : Int) + 8))) := hW); go_simp; (try go_bits); (try rw [if_pos (by omega)]); (try with_reducible rfl)
          (try simp only [Act.put, List.setIfInBounds_toArray, List.set_cons_succ, List.set_cons_zero])
          refine wpE_take (i := 4) (oi := { dst := some 76, op := Go.Op.move (Go.Operand.tmp 0), type := 42, pos := "engine.go:182", after := #[], guard := none }) (v := ?_) rfl (by kernel_rfl) (fun _ _ _ h => h) (Or.inl ⟨by rfl, fun W hW => ?_⟩) hS ?_
          rotate_left
          · (have hw1 : W.cell? ⟨e, 4, none⟩ = some (.int .u64 (IntKind.u64.wrap ((s.cp : Int) + 8))) := hW); go_simp; (try go_bits); (try rw [if_pos (by omega)]); (try with_reducible rfl)
          (try simp only [Act.put, List.setIfInBounds_toArray, List.set_cons_succ, List.set_cons_zero])
          refine wpE_only (i := 5) (oi := { dst := some 77, op := Go.Op.call { callee := Go.Callee.value (Go.Operand.func 41), args := #[Go.Operand.tmp 76], argTypes := #[42] }, type := 23, pos := "engine.go:182", after := #[{ on := 4, ground := Go.Ground.data }], guard := none }) rfl (by kernel_rfl) (by rfl) (fun K hK => ?_)
          go_simp; refine HL.out.mono ?_; rintro x wz ⟨rfl, rfl⟩; refine hK _ _ hS ?_; clear hK K
          (try simp only [Act.put, List.setIfInBounds_toArray, List.set_cons_succ, List.set_cons_zero])
          refine wpE_last (oi := { dst := some 78, op := Go.Op.binOp Go.BinOp.lss 23 (Go.Operand.tmp 75) (Go.Operand.tmp 77) 23, type := 4, pos := "engine.go:182", after := #[{ on := 3, ground := Go.Ground.data }, { on := 5, ground := Go.Ground.data }], guard := none }) rfl (by kernel_rfl) (by kernel_rfl) (by rfl) (fun K hK => ?_)
          go_simp; (try go_bits); refine hK _ _ ?_; clear hK K
          go_wp2
          refine bodyPost_ret (results_cell_tmp_row rfl _ _ lb 47 #[.int .i64 0, .int .i64 0] _ rfl HP.out.2.2.2 Tryz.underlying47 rfl (by kernel_rfl)) rfl ?_
          rw [HX.out.1, HX.out.2.1, HX.out.2.2]
          exact ⟨rfl, _, HP.out.1, HP.out.2.1, HP.out.2.2.1⟩
        · have hlt2 : decide (IntKind.u64.wrap ((s.cp : Int) + 8) < (s.rg 16 : Int)) = false := by rw [hcp8]; simp; omega
          have hnx : nextE s true true = { s with st := 2, cp := s.cp + 8 } := by unfold nextE; rw [if_pos hs]; simp [hlt]
          have hp2 := (hp1.put (s' := { s with st := 2, cp := s.cp + 8 }) hV 3 (.int .u64 2) (fun _ _ _ => rfl) rfl).drew hV
          clear hlt hq1 hq2 hq3 hq4 hq5 hq6 hcp8
          go_wp2_with fail
          refine wpE_region (S := fun (W' : World) => W'.cell? ⟨e, 4, none⟩ = some (.int .u64 (IntKind.u64.wrap ((s.cp : Int) + 8)))) (s := 6) (by kernel_rfl) ?_
          have hS : (fun (W' : World) => W'.cell? ⟨e, 4, none⟩ = some (.int .u64 (IntKind.u64.wrap ((s.cp : Int) + 8)))) _ := y4
          refine wpE_take (i := 0) (oi := { dst := some 72, op := Go.Op.move (Go.Operand.tmp 0), type := 42, pos := "engine.go:182", after := #[], guard := none }) (v := ?_) rfl (by kernel_rfl) (fun _ _ _ h => h) (Or.inl ⟨by rfl, fun W hW => ?_⟩) hS ?_
          rotate_left
          · (have hw1 : W.cell? ⟨e, 4, none⟩ = some (.int .u64 (IntKind.u64.wrap ((s.cp : Int) + 8))) := hW); go_simp; (try go_bits); (try rw [if_pos (by omega)]); (try with_reducible rfl)
          (try simp only [Act.put, List.setIfInBounds_toArray, List.set_cons_succ, List.set_cons_zero])
          refine wpE_take (i := 1) (oi := { dst := some 73, op := Go.Op.nilCheck (Go.Operand.tmp 72), type := 0, pos := "engine.go:182", after := #[{ on := 0, ground := Go.Ground.data }], guard := none }) (v := ?_) rfl (by kernel_rfl) (fun _ _ _ h => h) (Or.inl ⟨by rfl, fun W hW => ?_⟩) hS ?_
          rotate_left
          · (have hw1 : W.cell? ⟨e, 4, none⟩ = some (.int .u64 (IntKind.u64.wrap ((s.cp : Int) + 8))) := hW); go_simp; (try go_bits); (try rw [if_pos (by omega)]); (try with_reducible rfl)
          (try simp only [Act.put, List.setIfInBounds_toArray, List.set_cons_succ, List.set_cons_zero])
          refine wpE_take (i := 2) (oi := { dst := some 74, op := Go.Op.fieldAddr 123 (Go.Operand.tmp 73) 4, type := 0, pos := "engine.go:182", after := #[{ on := 1, ground := Go.Ground.data }], guard := none }) (v := ?_) rfl (by kernel_rfl) (fun _ _ _ h => h) (Or.inl ⟨by rfl, fun W hW => ?_⟩) hS ?_
          rotate_left
          · (have hw1 : W.cell? ⟨e, 4, none⟩ = some (.int .u64 (IntKind.u64.wrap ((s.cp : Int) + 8))) := hW); go_simp; (try go_bits); (try rw [if_pos (by omega)]); (try with_reducible rfl)
          (try simp only [Act.put, List.setIfInBounds_toArray, List.set_cons_succ, List.set_cons_zero])
          refine wpE_take (i := 3) (oi := { dst := some 75, op := Go.Op.load 23 (Go.Operand.tmp 74), type := 23, pos := "engine.go:182", after := #[{ on := 2, ground := Go.Ground.data }], guard := none }) (v := ?_) rfl (by kernel_rfl) (fun _ _ _ h => h) (Or.inl ⟨by rfl, fun W hW => ?_⟩) hS ?_
          rotate_left
          · (have hw1 : W.cell? ⟨e, 4, none⟩ = some (.int .u64 (IntKind.u64.wrap ((s.cp : Int) + 8))) := hW); go_simp; (try go_bits); (try rw [if_pos (by omega)]); (try with_reducible rfl)
          (try simp only [Act.put, List.setIfInBounds_toArray, List.set_cons_succ, List.set_cons_zero])
          refine wpE_take (i := 4) (oi := { dst := some 76, op := Go.Op.move (Go.Operand.tmp 0), type := 42, pos := "engine.go:182", after := #[], guard := none }) (v := ?_) rfl (by kernel_rfl) (fun _ _ _ h => h) (Or.inl ⟨by rfl, fun W hW => ?_⟩) hS ?_
          rotate_left
          · (have hw1 : W.cell? ⟨e, 4, none⟩ = some (.int .u64 (IntKind.u64.wrap ((s.cp : Int) + 8))) := hW); go_simp; (try go_bits); (try rw [if_pos (by omega)]); (try with_reducible rfl)
          (try simp only [Act.put, List.setIfInBounds_toArray, List.set_cons_succ, List.set_cons_zero])
          refine wpE_only (i := 5) (oi := { dst := some 77, op := Go.Op.call { callee := Go.Callee.value (Go.Operand.func 41), args := #[Go.Operand.tmp 76], argTypes := #[42] }, type := 23, pos := "engine.go:182", after := #[{ on := 4, ground := Go.Ground.data }], guard := none }) rfl (by kernel_rfl) (by rfl) (fun K hK => ?_)
          go_simp; refine HL.out.mono ?_; rintro x wz ⟨rfl, rfl⟩; refine hK _ _ hS ?_; clear hK K
          (try simp only [Act.put, List.setIfInBounds_toArray, List.set_cons_succ, List.set_cons_zero])
          refine wpE_last (oi := { dst := some 78, op := Go.Op.binOp Go.BinOp.lss 23 (Go.Operand.tmp 75) (Go.Operand.tmp 77) 23, type := 4, pos := "engine.go:182", after := #[{ on := 3, ground := Go.Ground.data }, { on := 5, ground := Go.Ground.data }], guard := none }) rfl (by kernel_rfl) (by kernel_rfl) (by rfl) (fun K hK => ?_)
          go_simp; (try go_bits); refine hK _ _ ?_; clear hK K
          clear hS HL
          have HM := Lib.hid (eng_msi hp2.eg)
          by_cases h40 : s.rg 40 = 0
          · have e40 : ((s.rg 40 : Int) == 0) = true := by rw [h40]; rfl
            have HX := Lib.hid (show resE s true true R = (0, 0, false) ∧ whichE s true true = 4 ∧ nextE s true true = { s with st := 2, cp := s.cp + 8 } from ⟨by simp [resE, hs, hnx, h40], by simp [whichE, hs, hnx, h40, atE], hnx⟩)
            have HP := Lib.hid (hp2.lset hV 0 0)
            clear hE hp1 hp1d hp2 h40 hs hnx
            go_wp2_with fail
            ((with_reducible refine HM.out.mono ?_); rintro x wz ⟨rfl, rfl⟩)
            clear HM
            go_wp2
            refine bodyPost_ret (results_cell_tmp_row rfl _ _ lb 47 #[.int .i64 0, .int .i64 0] _ rfl HP.out.2.2.2 Tryz.underlying47 rfl (by kernel_rfl)) rfl ?_
            rw [HX.out.1, HX.out.2.1, HX.out.2.2]
            exact ⟨rfl, _, HP.out.1, HP.out.2.1, HP.out.2.2.1⟩
          · have e40 : ((s.rg 40 : Int) == 0) = false := by simp; omega
            have HX := Lib.hid (show resE s true true R = R 4 ∧ whichE s true true = 4 + 10 ∧ nextE s true true = { s with st := 2, cp := s.cp + 8 } from ⟨by simp [resE, hs, hnx, h40, atE], by simp [whichE, hs, hnx, h40, atE], hnx⟩)
            have hpd := hp2.drew hV
            have HM2 := Lib.hid (eng_msi hpd.eg)
            have HD := Lib.hid (eng_data hpd.eg)
            have HW := Lib.hid (HG.ms 4 rfl _ _ hpd.v)
            obtain ⟨y0, y1, y3, y4, _⟩ := hpd.eg.cells
            have HP := Lib.hid hpd
            clear hE hp1 hp1d hp2 hpd h40 hs hnx
            go_wp2_with fail
            ((with_reducible refine HM.out.mono ?_); rintro x wz ⟨rfl, rfl⟩)
            clear HM
            go_wp2_with fail
            refine wpE_region (S := fun (W' : World) => W'.cell? ⟨e, 1, none⟩ = some (.iface ty rv)) (s := 14) (by kernel_rfl) ?_
            have hS : (fun (W' : World) => W'.cell? ⟨e, 1, none⟩ = some (.iface ty rv)) _ := y1
            refine wpE_take (i := 0) (oi := { dst := some 92, op := Go.Op.move (Go.Operand.tmp 0), type := 42, pos := "engine.go:192", after := #[], guard := none }) (v := ?_) rfl (by kernel_rfl) (fun _ _ _ h => h) (Or.inl ⟨by rfl, fun W hW => ?_⟩) hS ?_
            rotate_left
            · (have hw1 : W.cell? ⟨e, 1, none⟩ = some (.iface ty rv) := hW); go_simp; (try go_bits); (try rw [if_pos (by omega)]); (try with_reducible rfl)
            (try simp only [Act.put, List.setIfInBounds_toArray, List.set_cons_succ, List.set_cons_zero])
            refine wpE_take (i := 1) (oi := { dst := some 93, op := Go.Op.nilCheck (Go.Operand.tmp 92), type := 0, pos := "engine.go:192", after := #[{ on := 0, ground := Go.Ground.data }], guard := none }) (v := ?_) rfl (by kernel_rfl) (fun _ _ _ h => h) (Or.inl ⟨by rfl, fun W hW => ?_⟩) hS ?_
            rotate_left
            · (have hw1 : W.cell? ⟨e, 1, none⟩ = some (.iface ty rv) := hW); go_simp; (try go_bits); (try rw [if_pos (by omega)]); (try with_reducible rfl)
            (try simp only [Act.put, List.setIfInBounds_toArray, List.set_cons_succ, List.set_cons_zero])
            refine wpE_take (i := 2) (oi := { dst := some 94, op := Go.Op.fieldAddr 123 (Go.Operand.tmp 93) 1, type := 0, pos := "engine.go:192", after := #[{ on := 1, ground := Go.Ground.data }], guard := none }) (v := ?_) rfl (by kernel_rfl) (fun _ _ _ h => h) (Or.inl ⟨by rfl, fun W hW => ?_⟩) hS ?_
            rotate_left
            · (have hw1 : W.cell? ⟨e, 1, none⟩ = some (.iface ty rv) := hW); go_simp; (try go_bits); (try rw [if_pos (by omega)]); (try with_reducible rfl)
            (try simp only [Act.put, List.setIfInBounds_toArray, List.set_cons_succ, List.set_cons_zero])
            refine wpE_take (i := 3) (oi := { dst := some 95, op := Go.Op.load 108 (Go.Operand.tmp 94), type := 108, pos := "engine.go:192", after := #[{ on := 2, ground := Go.Ground.data }], guard := none }) (v := ?_) rfl (by kernel_rfl) (fun _ _ _ h => h) (Or.inl ⟨by rfl, fun W hW => ?_⟩) hS ?_
            rotate_left
            · (have hw1 : W.cell? ⟨e, 1, none⟩ = some (.iface ty rv) := hW); go_simp; (try go_bits); (try rw [if_pos (by omega)]); (try with_reducible rfl)
            (try simp only [Act.put, List.setIfInBounds_toArray, List.set_cons_succ, List.set_cons_zero])
            refine wpE_take (i := 4) (oi := { dst := some 96, op := Go.Op.move (Go.Operand.tmp 0), type := 42, pos := "engine.go:192", after := #[], guard := none }) (v := ?_) rfl (by kernel_rfl) (fun _ _ _ h => h) (Or.inl ⟨by rfl, fun W hW => ?_⟩) hS ?_
            rotate_left
            · (have hw1 : W.cell? ⟨e, 1, none⟩ = some (.iface ty rv) := hW); go_simp; (try go_bits); (try rw [if_pos (by omega)]); (try with_reducible rfl)
            (try simp only [Act.put, List.setIfInBounds_toArray, List.set_cons_succ, List.set_cons_zero])
            refine wpE_take (i := 6) (oi := { dst := some 98, op := Go.Op.move (Go.Operand.tmp 0), type := 42, pos := "engine.go:192", after := #[], guard := none }) (v := ?_) rfl (by kernel_rfl) (fun _ _ _ h => h) (Or.inl ⟨by rfl, fun W hW => ?_⟩) hS ?_
            rotate_left
            · (have hw1 : W.cell? ⟨e, 1, none⟩ = some (.iface ty rv) := hW); go_simp; (try go_bits); (try rw [if_pos (by omega)]); (try with_reducible rfl)
            (try simp only [Act.put, List.setIfInBounds_toArray, List.set_cons_succ, List.set_cons_zero])
            refine wpE_take (i := 8) (oi := { dst := some 100, op := Go.Op.nilCheck (Go.Operand.tmp 95), type := 108, pos := "engine.go:192", after := #[{ on := 3, ground := Go.Ground.data }], guard := none }) (v := ?_) rfl (by kernel_rfl) (fun _ _ _ h => h) (Or.inl ⟨by rfl, fun W hW => ?_⟩) hS ?_
            rotate_left
            · (have hw1 : W.cell? ⟨e, 1, none⟩ = some (.iface ty rv) := hW); go_simp; (try go_bits); (try rw [if_pos (by omega)]); (try with_reducible rfl)
            (try simp only [Act.put, List.setIfInBounds_toArray, List.set_cons_succ, List.set_cons_zero])
            refine wpE_take (i := 9) (oi := { dst := some 101, op := Go.Op.move (Go.Operand.tmp 95), type := 108, pos := "engine.go:192", after := #[{ on := 3, ground := Go.Ground.data }, { on := 8, ground := Go.Ground.data }], guard := none }) (v := ?_) rfl (by kernel_rfl) (fun _ _ _ h => h) (Or.inl ⟨by rfl, fun W hW => ?_⟩) hS ?_
            rotate_left
            · (have hw1 : W.cell? ⟨e, 1, none⟩ = some (.iface ty rv) := hW); go_simp; (try go_bits); (try rw [if_pos (by omega)]); (try with_reducible rfl)
            (try simp only [Act.put, List.setIfInBounds_toArray, List.set_cons_succ, List.set_cons_zero])
            refine wpE_only (i := 5) (oi := { dst := some 97, op := Go.Op.call { callee := Go.Callee.value (Go.Operand.func 42), args := #[Go.Operand.tmp 96], argTypes := #[42] }, type := 23, pos := "engine.go:192", after := #[{ on := 4, ground := Go.Ground.data }], guard := none }) rfl (by kernel_rfl) (by rfl) (fun K hK => ?_)
            go_simp; refine HM2.out.mono ?_; rintro x wz ⟨rfl, rfl⟩; refine hK _ _ hS ?_; clear hK K
            (try simp only [Act.put, List.setIfInBounds_toArray, List.set_cons_succ, List.set_cons_zero])
            refine wpE_only (i := 7) (oi := { dst := some 99, op := Go.Op.call { callee := Go.Callee.value (Go.Operand.func 43), args := #[Go.Operand.tmp 98], argTypes := #[42] }, type := 23, pos := "engine.go:192", after := #[{ on := 6, ground := Go.Ground.data }, { on := 5, ground := Go.Ground.chain }], guard := none }) rfl (by kernel_rfl) (by rfl) (fun K hK => ?_)
            go_simp; refine HD.out.mono ?_; rintro x wz ⟨rfl, rfl⟩; refine hK _ _ hS ?_; clear hK K
            (try simp only [Act.put, List.setIfInBounds_toArray, List.set_cons_succ, List.set_cons_zero])
            refine wpE_only (i := 10) (oi := { dst := some 102, op := Go.Op.call { callee := Go.Callee.invoke (Go.Operand.tmp 101) "citadel/engine.message", args := #[Go.Operand.tmp 97, Go.Operand.tmp 99], argTypes := #[23, 23] }, type := 61, pos := "engine.go:192", after := #[{ on := 9, ground := Go.Ground.data }, { on := 5, ground := Go.Ground.data }, { on := 7, ground := Go.Ground.data }, { on := 7, ground := Go.Ground.chain }], guard := none }) rfl (by kernel_rfl) (by rfl) (fun K hK => ?_)
            go_simp; rw [HG.m2]; simp only [Result.andThen]; rw [HG.c2, Oper.upon_enter]; refine HW.out.mono ?_; rintro x w9 ⟨rfl, own9, hS9, hV9⟩
            have hE9 := HP.out.call HG.hC hS9 hV9
            obtain ⟨q0, q1, q3, q4, _⟩ := hE9.eg.cells
            obtain ⟨l0, l1, g0, g1, ll⟩ := hE9.loc
            have HE9 := Lib.hid (hE9.lset hV (R 4).1 (R 4).2.1)
            clear HP HW HM2 HD hS9 hV9 hE9 hS
            have hS : (fun (W' : World) => W'.cell? ⟨e, 1, none⟩ = some (.iface ty rv)) w9 := q1
            refine hK _ _ hS ?_; clear hK K
            (try simp only [Act.put, List.setIfInBounds_toArray, List.set_cons_succ, List.set_cons_zero])
            refine wpE_take (i := 11) (oi := { dst := some 103, op := Go.Op.extract (Go.Operand.tmp 102) 0, type := 47, pos := "engine.go:192", after := #[{ on := 10, ground := Go.Ground.data }], guard := none }) (v := ?_) rfl (by kernel_rfl) (fun _ _ _ h => h) (Or.inl ⟨by rfl, fun W hW => ?_⟩) hS ?_
            rotate_left
            · (have hw1 : W.cell? ⟨e, 1, none⟩ = some (.iface ty rv) := hW); go_simp; (try go_bits); (try rw [if_pos (by omega)]); (try with_reducible rfl)
            (try simp only [Act.put, List.setIfInBounds_toArray, List.set_cons_succ, List.set_cons_zero])
            refine wpE_take (i := 12) (oi := { dst := some 104, op := Go.Op.extract (Go.Operand.tmp 102) 1, type := 4, pos := "engine.go:192", after := #[{ on := 10, ground := Go.Ground.data }], guard := none }) (v := ?_) rfl (by kernel_rfl) (fun _ _ _ h => h) (Or.inl ⟨by rfl, fun W hW => ?_⟩) hS ?_
            rotate_left
            · (have hw1 : W.cell? ⟨e, 1, none⟩ = some (.iface ty rv) := hW); go_simp; (try go_bits); (try rw [if_pos (by omega)]); (try with_reducible rfl)
            (try simp only [Act.put, List.setIfInBounds_toArray, List.set_cons_succ, List.set_cons_zero])
            refine wpE_only (i := 13) (oi := { dst := none, op := Go.Op.store 47 (Go.Operand.tmp 2) (Go.Operand.tmp 103), type := 0, pos := "engine.go:192", after := #[{ on := 11, ground := Go.Ground.data }, { on := 10, ground := Go.Ground.chain }, { on := 0, ground := Go.Ground.phase }, { on := 1, ground := Go.Ground.phase }, { on := 2, ground := Go.Ground.phase }, { on := 3, ground := Go.Ground.phase }, { on := 4, ground := Go.Ground.phase }, { on := 5, ground := Go.Ground.phase }, { on := 6, ground := Go.Ground.phase }, { on := 7, ground := Go.Ground.phase }, { on := 8, ground := Go.Ground.phase }, { on := 9, ground := Go.Ground.phase }, { on := 10, ground := Go.Ground.phase }, { on := 11, ground := Go.Ground.phase }, { on := 12, ground := Go.Ground.phase }], guard := none }) rfl (by kernel_rfl) (by rfl) (fun K hK => ?_)
            go_simp
            have hS : (fun (W' : World) => W'.cell? ⟨e, 1, none⟩ = some (.iface ty rv)) ((w9.setCell ⟨lb, 0, none⟩ (.int .i64 (R 4).1)).setCell ⟨lb, 1, none⟩ (.int .i64 (R 4).2.1)) := by show World.cell? _ _ = _; go_simp
            refine hK _ _ hS ?_; clear hK K
            (try simp only [Act.put, List.setIfInBounds_toArray, List.set_cons_succ, List.set_cons_zero])
            refine wpE_last (oi := { dst := some 3, op := Go.Op.assign (Go.Operand.tmp 104), type := 4, pos := "engine.go:192", after := #[{ on := 12, ground := Go.Ground.data }, { on := 13, ground := Go.Ground.chain }, { on := 0, ground := Go.Ground.phase }, { on := 1, ground := Go.Ground.phase }, { on := 2, ground := Go.Ground.phase }, { on := 3, ground := Go.Ground.phase }, { on := 4, ground := Go.Ground.phase }, { on := 5, ground := Go.Ground.phase }, { on := 6, ground := Go.Ground.phase }, { on := 7, ground := Go.Ground.phase }, { on := 8, ground := Go.Ground.phase }, { on := 9, ground := Go.Ground.phase }, { on := 10, ground := Go.Ground.phase }, { on := 11, ground := Go.Ground.phase }, { on := 12, ground := Go.Ground.phase }, { on := 13, ground := Go.Ground.phase }], guard := none }) rfl (by kernel_rfl) (by kernel_rfl) (by rfl) (fun K hK => ?_)
            go_simp; (try go_bits); refine hK _ _ ?_; clear hK K
            go_wp2
            refine bodyPost_ret (results_cell_tmp_row rfl _ _ lb 47 #[.int .i64 (R 4).1, .int .i64 (R 4).2.1] _ rfl HE9.out.2.2.2 Tryz.underlying47 rfl (by kernel_rfl)) rfl ?_
            rw [HX.out.1, HX.out.2.1, HX.out.2.2]
            exact ⟨rfl, _, HE9.out.1, HE9.out.2.1, HE9.out.2.2.1⟩
  · rw [show resE s o1 o2 R = (0, 0, false) from if_neg hs, show nextE s o1 o2 = s from if_neg hs, show whichE s o1 o2 = 0 from if_neg hs]
    rw [decide_eq_false hs] at hB
    have HB := Lib.hid hB
    have HE := Lib.hid hE0
    clear hE0 hB h hok H hs
    go_enter Tryz.func17, Tryz.ntmps17
    go_wp2_with fail
    ((with_reducible refine HB.out.mono ?_); rintro x wz ⟨rfl, rfl⟩)
    clear HB
    go_wp2
    refine bodyPost_ret (results_cell_tmp_row rfl _ _ w.heap.size 47 #[.int .i64 0, .int .i64 0] _ rfl HE.out.bl Tryz.underlying47 rfl (by kernel_rfl)) rfl ?_
    exact ⟨rfl, _, HE.out.st, HE.out.eg, HE.out.v⟩
end
end Go.Proofs.YtonhlgfgbdiapaaGreat

/- The document's engine, plain: its registers; it goes as the program's. -/
namespace Go.Proofs.YtonhlgfgbdiapaaGreat
set_option linter.unusedVariables false
set_option linter.unusedSimpArgs false
open Go.RowKit
def regD (t : Eg) (r : Nat) : Nat := if r = 3 then 0 else if r = 4 then t.st else t.rg (8 * r)
def beginD (t : Eg) : Eg := if badG t then { t with st := 3 } else { t with st := 1, cp := 0 }
def lowV (size : Int) (v : Nat) : Nat := if size = 4 then v % 4294967296 else v
def putD (t : Eg) (off : Nat) (size : Int) (v : Nat) : Nat := if size = 8 then v else if off % 8 = 0 then t.rg (off / 8 * 8) / 4294967296 * 4294967296 + v else t.rg (off / 8 * 8) % 4294967296 + v * 4294967296
def writeD (t : Eg) (off : Nat) (size : Int) (v : Nat) : Eg :=
  if fitsE off size then
    (if t.st = 1 then (if off / 8 = 3 ∧ off % 8 = 0 ∧ lowV size v / 2 % 2 = 1 then { t with st := 0 } else t)
     else if off / 8 = 4 then t
     else if off / 8 = 3 then (if off % 8 = 0 ∧ lowV size v % 2 = 1 then beginD t else if off % 8 = 0 ∧ lowV size v / 2 % 2 = 1 then { t with st := 0 } else t)
     else putE t (off / 8 * 8) (putD t off size (lowV size v)))
  else t
/-- the two go alike -/
structure SimE (s t : Eg) : Prop where
  rg : s.rg = t.rg
  st : s.st = t.st
  cp : s.st = 1 → s.cp = t.cp
theorem SimE.init : SimE eg0 eg0 := ⟨rfl, rfl, fun _ => rfl⟩
theorem fitsE_iff {off : Nat} {size : Int} : fitsE off size = true ↔ ((size = 4 ∨ size = 8) ∧ (off : Int) % size = 0 ∧ off < 56) := by
  unfold fitsE
  simp only [Bool.and_eq_true, Bool.or_eq_true, beq_iff_eq, decide_eq_true_eq]
  constructor
  · exact fun h => ⟨h.1.1, h.1.2, h.2⟩
  · exact fun h => ⟨⟨h.1, h.2.1⟩, h.2.2⟩
theorem lowV_eq {size : Int} (h : size = 4 ∨ size = 8) (v : Nat) : lowV size v % 2 = v % 2 ∧ lowV size v / 2 % 2 = v / 2 % 2 := by
  unfold lowV
  rcases h with rfl | rfl
  · rw [if_pos rfl]; omega
  · rw [if_neg (by decide)]; exact ⟨rfl, rfl⟩
theorem SimE.write {s t : Eg} (h : SimE s t) (off : Nat) (size : Int) (v : Nat) : SimE (writeE s off size v) (writeD t off size v) := by
  unfold writeE writeD
  cases hf : fitsE off size with
  | false => rw [if_neg (by decide), if_neg (by decide)]; exact h
  | true =>
    obtain ⟨hz, hm, ho⟩ := fitsE_iff.1 hf
    obtain ⟨l1, l2⟩ := lowV_eq hz v
    rw [if_pos rfl, if_pos rfl, l1, l2]
    have h8 : size = 8 → off % 8 = 0 := by rintro rfl; omega
    have hb : badG s = badG t := by unfold badG; rw [h.rg]
    by_cases hr : off / 8 = 3
    · rw [if_pos (show off / 8 * 8 = 24 by omega)]
      by_cases hs : s.st = 1
      · rw [if_pos (show t.st = 1 by rw [← h.st]; exact hs)]
        by_cases h24 : off = 24
        · rw [if_pos h24]
          unfold cmdE
          rw [if_pos hs]
          by_cases hv : v / 2 % 2 = 1
          · rw [if_pos hv, if_pos ⟨hr, by omega, hv⟩]
            exact ⟨h.rg, rfl, fun h => by cases h⟩
          · rw [if_neg hv, if_neg (fun h => hv h.2.2)]; exact h
        · rw [if_neg h24, if_neg (fun h => h24 (by omega))]; exact h
      · rw [if_neg (show ¬ t.st = 1 by rw [← h.st]; exact hs), if_neg (show ¬ off / 8 = 4 by omega), if_pos hr]
        by_cases h24 : off = 24
        · rw [if_pos h24]
          unfold cmdE beginD
          have ho8 : off % 8 = 0 := by omega
          rw [if_neg hs, hb]
          simp only [ho8, true_and]
          by_cases hv : v % 2 = 1
          · rw [if_pos hv, if_pos hv]
            cases badG t
            · exact ⟨h.rg, rfl, fun _ => rfl⟩
            · exact ⟨h.rg, rfl, fun h => by cases h⟩
          · rw [if_neg hv, if_neg hv]
            by_cases hv2 : v / 2 % 2 = 1
            · rw [if_pos hv2, if_pos hv2]
              exact ⟨h.rg, rfl, fun h => by cases h⟩
            · rw [if_neg hv2, if_neg hv2]; exact h
        · rw [if_neg h24, if_neg (fun h => h24 (by omega)), if_neg (fun h => h24 (by omega))]; exact h
    · rw [if_neg (show ¬ off / 8 * 8 = 24 by omega)]
      by_cases hr4 : off / 8 = 4
      · rw [if_pos (show off / 8 * 8 = 32 by omega)]
        by_cases hs : s.st = 1
        · rw [if_pos (show t.st = 1 by rw [← h.st]; exact hs), if_neg (fun h => hr h.1)]; exact h
        · rw [if_neg (show ¬ t.st = 1 by rw [← h.st]; exact hs), if_pos hr4]; exact h
      · rw [if_neg (show ¬ off / 8 * 8 = 32 by omega)]
        by_cases hs : s.st = 1
        · rw [if_pos hs, if_pos (show t.st = 1 by rw [← h.st]; exact hs), if_neg (fun h => hr h.1)]; exact h
        · rw [if_neg hs, if_neg (show ¬ t.st = 1 by rw [← h.st]; exact hs), if_neg hr4, if_neg hr]
          have he : setE (s.rg (off / 8 * 8)) off size v = putD t off size (lowV size v) := by
            unfold setE putD lowV
            rw [h.rg]
            rcases hz with rfl | rfl <;> simp
          rw [he]
          refine ⟨?_, h.st, h.cp⟩
          show (fun x => if x = _ then _ else s.rg x) = fun x => if x = _ then _ else t.rg x
          rw [h.rg]
theorem SimE.read {s t : Eg} (h : SimE s t) (off : Nat) (size : Int) : readE s off size = readE t off size := by unfold readE regE; rw [h.rg, h.st]
theorem SimE.next {s t : Eg} (h : SimE s t) (o1 o2 : Bool) : SimE (nextE s o1 o2) (nextE t o1 o2) := by
  unfold nextE
  by_cases hs : s.st = 1
  · rw [if_pos hs, if_pos (show t.st = 1 by rw [← h.st]; exact hs)]
    have hc := h.cp hs
    split
    · rw [hc, h.rg]
      split
      · exact ⟨rfl, h.st, fun _ => rfl⟩
      · exact ⟨rfl, rfl, fun _ => rfl⟩
    · exact ⟨h.rg, rfl, fun h => by cases h⟩
  · rw [if_neg hs, if_neg (show ¬ t.st = 1 by rw [← h.st]; exact hs)]; exact h
theorem SimE.which {s t : Eg} (h : SimE s t) (o1 o2 : Bool) : whichE s o1 o2 = whichE t o1 o2 := by
  unfold whichE
  rw [(h.next o1 o2).st, h.st, h.rg]
theorem SimE.res {s t : Eg} (h : SimE s t) (o1 o2 : Bool) (R : Nat → Int × Int × Bool) : resE s o1 o2 R = resE t o1 o2 R := by
  unfold resE
  rw [(h.next o1 o2).st, h.st, h.rg]
/-- the document's engine keeps its bounds -/
structure ErOk (t : Eg) : Prop where
  rg : ∀ k, t.rg k < 18446744073709551616
  st : t.st < 4
  cp : t.cp < 18446744073709551616
  run : t.st = 1 → t.cp < t.rg 16 ∧ t.rg 16 ≤ 4096
theorem ErOk.init : ErOk eg0 := ⟨fun k => by show 0 < _; decide, by decide, by decide, fun h => by cases h⟩
theorem SimE.ok {s t : Eg} (h : SimE s t) (hs : EgOk s) (ht : t.cp < 18446744073709551616) : ErOk t :=
  ⟨fun k => by rw [← h.rg]; exact hs.rg k, by rw [← h.st]; exact hs.st, ht, fun e => by have h1 : s.st = 1 := by rw [h.st]; exact e
                                                                                        have := hs.run h1; rw [← h.rg, ← h.cp h1]; omega⟩
theorem writeD_cp {t : Eg} (h : t.cp < 18446744073709551616) (off : Nat) (size : Int) (v : Nat) : (writeD t off size v).cp < 18446744073709551616 := by
  unfold writeD beginD
  repeat' split
  all_goals first | exact h | (show 0 < _; decide)
theorem nextE_cp {t : Eg} (h : ErOk t) (o1 o2 : Bool) : (nextE t o1 o2).cp < 18446744073709551616 := by
  unfold nextE
  split
  · rename_i hs
    have := h.run hs
    split
    · split
      · show t.cp + 8 < _; omega
      · show t.cp + 8 < _; omega
    · exact h.cp
  · exact h.cp
end Go.Proofs.YtonhlgfgbdiapaaGreat

/- The document's engine: its cells; place, Read, begin. -/
namespace Go.Proofs.YtonhlgfgbdiapaaGreat
set_option linter.unusedVariables false
set_option linter.unusedSimpArgs false
open Go.RowKit
set_option maxRecDepth 100000
def erC (dev : Int) (mv uv : Value) (t : Eg) : Array Value := #[.int .i64 dev, mv, uv, .int .u64 (t.rg 0 : Int), .int .u64 (t.rg 8 : Int), .int .u64 (t.rg 16 : Int), .int .u64 0, .int .u64 (t.st : Int), .int .u64 (t.rg 40 : Int), .int .u64 (t.rg 48 : Int), .int .u64 (t.cp : Int)]
def ErAt (own : Nat → Nat) (c : Nat) (w : World) (q : Nat) (dev : Int) (mv uv : Value) (t : Eg) : Prop := Blk w q 74 (erC dev mv uv t) ∧ own q = c
section
variable {own own' : Nat → Nat} {c q : Nat} {dev : Int} {mv uv : Value} {w w' : World} {t t' : Eg}
theorem ErAt.step {C : Nat → Prop} (h : ErAt own c w q dev mv uv t) (hS : Step C own w own' w') (hc : ¬ C c) : ErAt own' c w' q dev mv uv t := hS.blk h.1 h.2 hc
theorem ErAt.put (h : ErAt own c w q dev mv uv t) (j : Nat) (x : Value) (he : erC dev mv uv t' = (erC dev mv uv t).setIfInBounds j x) : Step (· = c) own w own (w.setCell ⟨q, j, none⟩ x) ∧ ErAt own c (w.setCell ⟨q, j, none⟩ x) q dev mv uv t' :=
  ⟨⟨((Upd.refl (· = q) w).setCell (p := ⟨q, j, none⟩) (.inl rfl) _).mono (fun i _ hi => by rw [hi]; exact h.2), fun _ _ => rfl⟩, by have := h.1.set_ j x; rw [← he] at this; exact ⟨this, h.2⟩⟩
theorem ErAt.reg (h : ErAt own c w q dev mv uv t) (r : Nat) (hr : r < 7) : w.cell? ⟨q, 3 + r, none⟩ = some (.int .u64 (regD t r : Int)) := by
  rw [h.1.cell]
  rcases (show r = 0 ∨ r = 1 ∨ r = 2 ∨ r = 3 ∨ r = 4 ∨ r = 5 ∨ r = 6 by omega) with rfl | rfl | rfl | rfl | rfl | rfl | rfl <;> rfl
theorem ErAt.cells (h : ErAt own c w q dev mv uv t) : w.cell? ⟨q, 0, none⟩ = some (.int .i64 dev) ∧ w.cell? ⟨q, 1, none⟩ = some mv ∧ w.cell? ⟨q, 2, none⟩ = some uv ∧ w.cell? ⟨q, 3, none⟩ = some (.int .u64 (t.rg 0 : Int)) ∧ w.cell? ⟨q, 4, none⟩ = some (.int .u64 (t.rg 8 : Int)) ∧ w.cell? ⟨q, 5, none⟩ = some (.int .u64 (t.rg 16 : Int)) ∧ w.cell? ⟨q, 7, none⟩ = some (.int .u64 (t.st : Int)) ∧ w.cell? ⟨q, 8, none⟩ = some (.int .u64 (t.rg 40 : Int)) ∧ w.cell? ⟨q, 9, none⟩ = some (.int .u64 (t.rg 48 : Int)) ∧ w.cell? ⟨q, 10, none⟩ = some (.int .u64 (t.cp : Int)) ∧ q < w.heap.size :=
  ⟨h.1.cell 0, h.1.cell 1, h.1.cell 2, h.1.cell 3, h.1.cell 4, h.1.cell 5, h.1.cell 7, h.1.cell 8, h.1.cell 9, h.1.cell 10, h.1.lt⟩
theorem ErAt.froz (h : ErAt own c w q dev mv uv t) (j : Nat) : w.frozen? ⟨q, j, none⟩ = false := h.1.frozen j
theorem eref_place (off : Nat) (hoff : off < 18446744073709551616) (size : Int) (hs0 : -9223372036854775808 ≤ size) (hs1 : size ≤ 9223372036854775807) (w : World) :
    Calls Tryz.prog 72 #[.int .u64 (off : Int), .int .i64 size] w fun x w' => x = .returned (.tuple #[.int .i64 (if fitsE off size then ((off / 8 : Nat) : Int) else 0), .int .u64 (if fitsE off size then ((off % 8 : Nat) : Int) else 0), .bool (fitsE off size)]) ∧ w = w' := by
  have e8 : ((off : Int) / 8) = ((off / 8 : Nat) : Int) := by omega
  have m8 : ((off : Int) % 8) = ((off % 8 : Nat) : Int) := by omega
  by_cases hsz : size = 4 ∨ size = 8
  · by_cases hm : (off : Int) % size = 0
    · by_cases hl : off < 56
      · have hf : fitsE off size = true := fitsE_iff.2 ⟨hsz, hm, hl⟩
        rw [hf, if_pos rfl, if_pos rfl, ← e8, ← m8]
        have hl2 : decide ((56 : Int) ≤ (off : Int)) = false := by simp; omega
        have hm2 : ((off : Int) % size != 0) = false := by rw [hm]; rfl
        have h56 : (off : Int) < 56 := by omega
        clear hf e8 m8
        rcases hsz with rfl | rfl
        all_goals
          go_enter Tryz.func72, Tryz.ntmps72
          go_wp2
          go_ret3
          exact ⟨rfl, rfl⟩
      · have hf : fitsE off size = false := by cases h : fitsE off size; rfl; exact absurd (fitsE_iff.1 h).2.2 hl
        rw [hf, if_neg (by decide), if_neg (by decide)]
        have hl2 : decide ((56 : Int) ≤ (off : Int)) = true := by simp; omega
        have hm2 : ((off : Int) % size != 0) = false := by rw [hm]; rfl
        clear hf e8 m8
        rcases hsz with rfl | rfl
        all_goals
          go_enter Tryz.func72, Tryz.ntmps72
          go_wp2
          go_ret3
          exact ⟨rfl, rfl⟩
    · have hf : fitsE off size = false := by cases h : fitsE off size; rfl; exact absurd (fitsE_iff.1 h).2.1 hm
      rw [hf, if_neg (by decide), if_neg (by decide)]
      have hm2 : ((off : Int) % size != 0) = true := by simpa using hm
      clear hf e8 m8
      rcases hsz with rfl | rfl
      all_goals
        go_enter Tryz.func72, Tryz.ntmps72
        go_wp2
        go_ret3
        exact ⟨rfl, rfl⟩
  · have hf : fitsE off size = false := by cases h : fitsE off size; rfl; exact absurd (fitsE_iff.1 h).1 hsz
    rw [hf, if_neg (by decide), if_neg (by decide)]
    have z4 : (size != 4) = true := by simp; omega
    have z8 : (size != 8) = true := by simp; omega
    clear hf e8 m8
    go_enter Tryz.func72, Tryz.ntmps72
    go_wp2
    go_ret3
    exact ⟨rfl, rfl⟩
end
end Go.Proofs.YtonhlgfgbdiapaaGreat

/- The document's engine: Read, begin, Write, Reset. -/
namespace Go.Proofs.YtonhlgfgbdiapaaGreat
set_option linter.unusedVariables false
set_option linter.unusedSimpArgs false
open Go.RowKit
set_option maxRecDepth 100000
section
variable {own own' : Nat → Nat} {c q : Nat} {dev : Int} {mv uv : Value} {w w' : World} {t t' : Eg}
theorem regE_D (t : Eg) (r : Nat) : regE t (8 * r) = regD t r := by
  unfold regE regD
  by_cases h3 : r = 3
  · subst h3; rfl
  · rw [if_neg (by omega), if_neg h3]
    by_cases h4 : r = 4
    · subst h4; rfl
    · rw [if_neg (by omega), if_neg h4]
theorem eref_Read (h : ErAt own c w q dev mv uv t) (hok : ErOk t) (off : Nat) (hoff : off < 18446744073709551616) (size : Int) (hs0 : -9223372036854775808 ≤ size) (hs1 : size ≤ 9223372036854775807) :
    Calls Tryz.prog 49 #[.pointer (some ⟨q, 0, none⟩), .int .u64 (off : Int), .int .i64 size] w fun x w' => x = .returned (.tuple #[.int .u64 (readE t off size : Int), .bool (fitsE off size)]) ∧ w = w' := by
  have hP := eref_place off hoff size hs0 hs1 w
  cases hf : fitsE off size with
  | false =>
    rw [hf, if_neg (by decide), if_neg (by decide)] at hP
    rw [show readE t off size = 0 from by unfold readE; rw [hf]; rfl]
    have HP := Lib.hid hP
    clear hP h hok
    go_enter Tryz.func49, Tryz.ntmps49
    go_wp2_with fail
    ((with_reducible refine HP.out.mono ?_); rintro x wz ⟨rfl, rfl⟩)
    clear HP
    go_wp2
    go_ret2
    exact ⟨rfl, rfl⟩
  | true =>
    rw [hf, if_pos rfl, if_pos rfl] at hP
    obtain ⟨hz, hm, ho⟩ := fitsE_iff.1 hf
    obtain ⟨r, hr⟩ : ∃ r, off / 8 = r := ⟨_, rfl⟩
    obtain ⟨i, hi⟩ : ∃ i, off % 8 = i := ⟨_, rfl⟩
    have hr7 : r < 7 := by omega
    have hrd : readE t off size = if size = 8 then regD t r else regD t r / 2 ^ (8 * i) % 4294967296 := by
      unfold readE
      rw [hf, if_pos rfl, show off / 8 * 8 = 8 * r by omega, hi, regE_D]
    rw [hrd]
    rw [hr, hi] at hP
    have hc := h.reg r hr7
    have hlt := h.cells.2.2.2.2.2.2.2.2.2.2
    have hV : regD t r < 18446744073709551616 := by unfold regD; split; decide; split; have := hok.st; omega; exact hok.rg _
    have h3 : r = 3 → regD t r = 0 := by rintro rfl; rfl
    obtain ⟨V, hVV⟩ : ∃ V, regD t r = V := ⟨_, rfl⟩
    rw [hVV] at hc hV h3 ⊢
    have hil : i < 8 := by omega
    have HP := Lib.hid hP
    have hzi : (size = 8 ∧ i = 0) ∨ (size = 4 ∧ i = 0) ∨ (size = 4 ∧ i = 4) := by
      rcases hz with rfl | rfl <;> omega
    clear hP h hok hVV hrd hf hz hm ho hr hi
    by_cases hr3 : r = 3
    · have e3 : ((r : Int) == 3) = true := by rw [hr3]; rfl
      have hV0 := h3 hr3
      subst hV0
      clear h3 hr3
      rcases hzi with ⟨rfl, rfl⟩ | ⟨rfl, rfl⟩ | ⟨rfl, rfl⟩
      all_goals
        go_enter Tryz.func49, Tryz.ntmps49
        go_wp2_with fail
        ((with_reducible refine HP.out.mono ?_); rintro x wz ⟨rfl, rfl⟩)
        clear HP
        go_wp2
        go_ret2
        exact ⟨rfl, rfl⟩
    · have e3 : ((r : Int) == 3) = false := by simp; omega
      clear h3
      rcases hzi with ⟨rfl, rfl⟩ | ⟨rfl, rfl⟩ | ⟨rfl, rfl⟩
      · rw [if_pos rfl]
        go_enter Tryz.func49, Tryz.ntmps49
        go_wp2_with fail
        ((with_reducible refine HP.out.mono ?_); rintro x wz ⟨rfl, rfl⟩)
        clear HP
        go_wp2
        go_ret2
        exact ⟨rfl, rfl⟩
      · rw [if_neg (by decide), show (2 : Nat) ^ (8 * 0) = 1 from rfl, Nat.div_one, show ((V % 4294967296 : Nat) : Int) = (V : Int) % 4294967296 from by omega]
        go_enter Tryz.func49, Tryz.ntmps49
        go_wp2_with fail
        ((with_reducible refine HP.out.mono ?_); rintro x wz ⟨rfl, rfl⟩)
        clear HP
        go_wp2
        go_ret2
        exact ⟨rfl, rfl⟩
      · rw [if_neg (by decide), show (2 : Nat) ^ (8 * 4) = 4294967296 from rfl, show ((V / 4294967296 % 4294967296 : Nat) : Int) = (V : Int) / 4294967296 % 4294967296 from by omega]
        go_enter Tryz.func49, Tryz.ntmps49
        go_wp2_with fail
        ((with_reducible refine HP.out.mono ?_); rintro x wz ⟨rfl, rfl⟩)
        clear HP
        go_wp2
        go_ret2
        exact ⟨rfl, rfl⟩
theorem eref_begin (h : ErAt own c w q dev mv uv t) :
    Calls Tryz.prog 73 #[.pointer (some ⟨q, 0, none⟩)] w fun x w' => x = .returned (.tuple #[]) ∧ Step (· = c) own w own w' ∧ ErAt own c w' q dev mv uv (beginD t) := by
  obtain ⟨_, _, _, c3, c4, c5, c7, _, _, c10, hlt⟩ := h.cells
  have z7 := h.froz 7
  have z10 := h.froz 10
  have hp3 := h.put (t' := { t with st := 3 }) 7 (.int .u64 3) rfl
  have hp1 := h.put (t' := { t with st := 1 }) 7 (.int .u64 1) rfl
  have hp10 := hp1.2.put (t' := { t with st := 1, cp := 0 }) 10 (.int .u64 0) rfl
  unfold beginD
  cases hb : badG t with
  | true =>
    rw [if_pos rfl]
    have HF := Lib.hid hp3
    have hcs : (t.rg 16 = 0) ∨ (¬ t.rg 16 = 0 ∧ 4096 < t.rg 16) ∨ (¬ t.rg 16 = 0 ∧ ¬ 4096 < t.rg 16 ∧ t.rg 0 % 8 ≠ 0) ∨ (¬ t.rg 16 = 0 ∧ ¬ 4096 < t.rg 16 ∧ ¬ t.rg 0 % 8 ≠ 0 ∧ t.rg 8 % 8 ≠ 0) ∨ (¬ t.rg 16 = 0 ∧ ¬ 4096 < t.rg 16 ∧ ¬ t.rg 0 % 8 ≠ 0 ∧ ¬ t.rg 8 % 8 ≠ 0 ∧ t.rg 16 % 8 ≠ 0) := by
      unfold badG at hb
      simp only [Bool.or_eq_true, decide_eq_true_eq] at hb
      omega
    clear hb h hp3 hp1 hp10
    obtain ⟨r0, hr0⟩ : ∃ r, t.rg 0 = r := ⟨_, rfl⟩
    obtain ⟨r8, hr8⟩ : ∃ r, t.rg 8 = r := ⟨_, rfl⟩
    obtain ⟨n, hn⟩ : ∃ r, t.rg 16 = r := ⟨_, rfl⟩
    rw [hr0, hr8, hn] at hcs
    rw [hr0] at c3
    rw [hr8] at c4
    rw [hn] at c5
    clear hr0 hr8 hn
    have d1 : ((n : Int) == 0) = decide (n = 0) := by by_cases h : n = 0 <;> simp [h]
    have d2 : decide ((4096 : Int) < (n : Int)) = decide (4096 < n) := by by_cases h : 4096 < n <;> simp [h] <;> omega
    have d3 : ((r0 : Int) % 8 != 0) = decide (r0 % 8 ≠ 0) := by by_cases h : r0 % 8 = 0 <;> simp [h] <;> omega
    have d4 : ((r8 : Int) % 8 != 0) = decide (r8 % 8 ≠ 0) := by by_cases h : r8 % 8 = 0 <;> simp [h] <;> omega
    have d5 : ((n : Int) % 8 != 0) = decide (n % 8 ≠ 0) := by by_cases h : n % 8 = 0 <;> simp [h] <;> omega
    rcases hcs with h1 | ⟨h1, h2⟩ | ⟨h1, h2, h3⟩ | ⟨h1, h2, h3, h4⟩ | ⟨h1, h2, h3, h4, h5⟩
    · rw [decide_eq_true h1] at d1
      go_enter Tryz.func73, Tryz.ntmps73
      go_wp2
      refine bodyPost_ret (results_none rfl _ _ _) rfl ?_
      exact ⟨rfl, HF.out⟩
    · rw [decide_eq_false h1] at d1
      rw [decide_eq_true h2] at d2
      go_enter Tryz.func73, Tryz.ntmps73
      go_wp2
      refine bodyPost_ret (results_none rfl _ _ _) rfl ?_
      exact ⟨rfl, HF.out⟩
    · rw [decide_eq_false h1] at d1
      rw [decide_eq_false h2] at d2
      rw [decide_eq_true h3] at d3
      go_enter Tryz.func73, Tryz.ntmps73
      go_wp2
      refine bodyPost_ret (results_none rfl _ _ _) rfl ?_
      exact ⟨rfl, HF.out⟩
    · rw [decide_eq_false h1] at d1
      rw [decide_eq_false h2] at d2
      rw [decide_eq_false h3] at d3
      rw [decide_eq_true h4] at d4
      go_enter Tryz.func73, Tryz.ntmps73
      go_wp2
      refine bodyPost_ret (results_none rfl _ _ _) rfl ?_
      exact ⟨rfl, HF.out⟩
    · rw [decide_eq_false h1] at d1
      rw [decide_eq_false h2] at d2
      rw [decide_eq_false h3] at d3
      rw [decide_eq_false h4] at d4
      rw [decide_eq_true h5] at d5
      go_enter Tryz.func73, Tryz.ntmps73
      go_wp2
      refine bodyPost_ret (results_none rfl _ _ _) rfl ?_
      exact ⟨rfl, HF.out⟩
  | false =>
    rw [if_neg (by decide)]
    have HF := Lib.hid (And.intro (hp1.1.trans hp10.1) hp10.2)
    have n0 : ((t.rg 16 : Int) == 0) = false := by unfold badG at hb; simp at hb ⊢; omega
    have n1 : decide ((4096 : Int) < (t.rg 16 : Int)) = false := by unfold badG at hb; simp at hb ⊢; omega
    have n2 : ((t.rg 0 : Int) % 8 != 0) = false := by unfold badG at hb; simp at hb ⊢; omega
    have n3 : ((t.rg 8 : Int) % 8 != 0) = false := by unfold badG at hb; simp at hb ⊢; omega
    have n4 : ((t.rg 16 : Int) % 8 != 0) = false := by unfold badG at hb; simp at hb ⊢; omega
    have m1 : ¬ 4096 < t.rg 16 := by unfold badG at hb; simp at hb ⊢; omega
    clear hb h hp3 hp1 hp10
    go_enter Tryz.func73, Tryz.ntmps73
    go_wp2
    go_end0
    exact ⟨rfl, HF.out⟩
set_option maxHeartbeats 1000000 in
theorem eref_Reset (h : ErAt own c w q dev mv uv t) :
    Calls Tryz.prog 52 #[.pointer (some ⟨q, 0, none⟩)] w fun x w' => x = .returned (.tuple #[]) ∧ Step (· = c) own w own w' ∧ ErAt own c w' q dev mv uv eg0 := by
  obtain ⟨c0, c1, c2, c3, c4, c5, c7, c8, c9, c10, hlt⟩ := h.cells
  have c6 : w.cell? ⟨q, 6, none⟩ = some (.int .u64 0) := h.1.cell 6
  have z := h.froz
  obtain ⟨hS0, hE0⟩ := h.put (t' := putE t 0 0) 3 (.int .u64 0) rfl
  obtain ⟨hS1, hE1⟩ := hE0.put (t' := putE (putE t 0 0) 8 0) 4 (.int .u64 0) rfl
  obtain ⟨hS2, hE2⟩ := hE1.put (t' := putE (putE (putE t 0 0) 8 0) 16 0) 5 (.int .u64 0) rfl
  obtain ⟨hS3, hE3⟩ := hE2.put (t' := putE (putE (putE t 0 0) 8 0) 16 0) 6 (.int .u64 0) rfl
  obtain ⟨hS4, hE4⟩ := hE3.put (t' := { (putE (putE (putE t 0 0) 8 0) 16 0 : Eg) with st := 0 }) 7 (.int .u64 0) rfl
  obtain ⟨hS5, hE5⟩ := hE4.put (t' := putE ({ (putE (putE (putE t 0 0) 8 0) 16 0 : Eg) with st := 0 }) 40 0) 8 (.int .u64 0) rfl
  obtain ⟨hS6, hE6⟩ := hE5.put (t' := putE (putE ({ (putE (putE (putE t 0 0) 8 0) 16 0 : Eg) with st := 0 }) 40 0) 48 0) 9 (.int .u64 0) rfl
  obtain ⟨hS7, hE7⟩ := hE6.put (t' := { (putE (putE ({ (putE (putE (putE t 0 0) 8 0) 16 0 : Eg) with st := 0 }) 40 0) 48 0 : Eg) with cp := 0 }) 10 (.int .u64 0) rfl
  have hS := ((((((hS0.trans hS1).trans hS2).trans hS3).trans hS4).trans hS5).trans hS6).trans hS7
  have he : erC dev mv uv ({ (putE (putE ({ (putE (putE (putE t 0 0) 8 0) 16 0 : Eg) with st := 0 }) 40 0) 48 0 : Eg) with cp := 0 }) = erC dev mv uv eg0 := rfl
  have HF := Lib.hid (And.intro hS (show ErAt own c _ q dev mv uv eg0 from ⟨by rw [← he]; exact hE7.1, hE7.2⟩))
  clear hS0 hE0 hS1 hE1 hS2 hE2 hS3 hE3 hS4 hE4 hS5 hE5 hS6 hE6 hS7 hE7 hS he h
  go_enter Tryz.func52, Tryz.ntmps52
  go_wp2
  go_end0
  exact ⟨rfl, HF.out⟩
end
end Go.Proofs.YtonhlgfgbdiapaaGreat

/- The document's engine: Write. -/
namespace Go.Proofs.YtonhlgfgbdiapaaGreat
set_option linter.unusedVariables false
set_option linter.unusedSimpArgs false
open Go.RowKit
set_option maxRecDepth 100000
section
variable {own own' : Nat → Nat} {c q : Nat} {dev : Int} {mv uv : Value} {w w' : World} {t t' : Eg}
theorem ErAt.putR (h : ErAt own c w q dev mv uv t) (r N : Nat) (hr : r < 7) (h3 : r ≠ 3) (h4 : r ≠ 4) : Step (· = c) own w own (w.setCell ⟨q, 3 + r, none⟩ (.int .u64 (N : Int))) ∧ ErAt own c (w.setCell ⟨q, 3 + r, none⟩ (.int .u64 (N : Int))) q dev mv uv (putE t (8 * r) N) := by
  refine h.put (t' := putE t (8 * r) N) (3 + r) (.int .u64 (N : Int)) ?_
  rcases (show r = 0 ∨ r = 1 ∨ r = 2 ∨ r = 5 ∨ r = 6 by omega) with rfl | rfl | rfl | rfl | rfl <;> rfl
set_option maxHeartbeats 3000000 in
theorem eref_Write (h : ErAt own c w q dev mv uv t) (hok : ErOk t) (off : Nat) (hoff : off < 18446744073709551616) (size : Int) (hs0 : -9223372036854775808 ≤ size) (hs1 : size ≤ 9223372036854775807) (v : Nat) (hv : v < 18446744073709551616) :
    Calls Tryz.prog 48 #[.pointer (some ⟨q, 0, none⟩), .int .u64 (off : Int), .int .i64 size, .int .u64 (v : Int)] w fun x w' => x = .returned (.bool (fitsE off size)) ∧ Step (· = c) own w own w' ∧ ErAt own c w' q dev mv uv (writeD t off size v) := by
  have hP := eref_place off hoff size hs0 hs1 w
  cases hf : fitsE off size with
  | false =>
    rw [hf, if_neg (by decide), if_neg (by decide)] at hP
    rw [show writeD t off size v = t from by unfold writeD; rw [hf]; rfl]
    have HP := Lib.hid hP
    have HF := Lib.hid (And.intro (Step.refl (· = c) own w) h)
    clear hP h hok
    go_enter Tryz.func48, Tryz.ntmps48
    go_wp2_with fail
    ((with_reducible refine HP.out.mono ?_); rintro x wz ⟨rfl, rfl⟩)
    clear HP
    go_wp2
    go_ret
    exact ⟨rfl, HF.out⟩
  | true =>
    rw [hf, if_pos rfl, if_pos rfl] at hP
    obtain ⟨hz, hm, ho⟩ := fitsE_iff.1 hf
    obtain ⟨r, hr⟩ : ∃ r, off / 8 = r := ⟨_, rfl⟩
    obtain ⟨i, hi⟩ : ∃ i, off % 8 = i := ⟨_, rfl⟩
    have hr7 : r < 7 := by omega
    obtain ⟨lv, hlv⟩ : ∃ lv, lowV size v = lv := ⟨_, rfl⟩
    have hwd : writeD t off size v = if t.st = 1 then (if r = 3 ∧ i = 0 ∧ lv / 2 % 2 = 1 then { t with st := 0 } else t) else if r = 4 then t else if r = 3 then (if i = 0 ∧ lv % 2 = 1 then beginD t else if i = 0 ∧ lv / 2 % 2 = 1 then { t with st := 0 } else t) else putE t (8 * r) (if size = 8 then lv else if i = 0 then t.rg (8 * r) / 4294967296 * 4294967296 + lv else t.rg (8 * r) % 4294967296 + lv * 4294967296) := by
      unfold writeD putD
      rw [hf, if_pos rfl, hlv, show off / 8 * 8 = 8 * r by omega, hr, hi]
    rw [hr, hi] at hP
    have hil : i < 8 := by omega
    have hzi : (size = 8 ∧ i = 0) ∨ (size = 4 ∧ i = 0) ∨ (size = 4 ∧ i = 4) := by
      rcases hz with rfl | rfl <;> omega
    have hc := h.reg r hr7
    have hzz := h.froz
    obtain ⟨_, _, _, _, _, _, c7, _, _, _, hlt⟩ := h.cells
    have z7 := h.froz 7
    have zr := h.froz (3 + r)
    have hp0 := h.put (t' := { t with st := 0 }) 7 (.int .u64 0) rfl
    have hbg := eref_begin h
    have hR : r ≠ 3 → r ≠ 4 → regD t r = t.rg (8 * r) := fun h3 h4 => by unfold regD; rw [if_neg h3, if_neg h4]
    have hold : t.rg (8 * r) < 18446744073709551616 := hok.rg _
    have hPR := fun N h3 h4 => h.putR r N hr7 h3 h4
    have hid := And.intro (Step.refl (· = c) own w) h
    have hvq : ∀ x : Nat, (((x : Int) / 2 % 2 == 1) = decide (x / 2 % 2 = 1)) ∧ (((x : Int) % 2 == 1) = decide (x % 2 = 1)) := by
      intro x
      constructor
      · by_cases h : x / 2 % 2 = 1
        · rw [decide_eq_true h]; simp; omega
        · rw [decide_eq_false h]; simp; omega
      · by_cases h : x % 2 = 1
        · rw [decide_eq_true h]; simp; omega
        · rw [decide_eq_false h]; simp; omega
    obtain ⟨q2, q1⟩ := hvq lv
    have HP := Lib.hid hP
    clear hP hf hz hm ho hr hi hzz hvq h hok
    rcases hzi with ⟨rfl, rfl⟩ | ⟨rfl, rfl⟩ | ⟨rfl, rfl⟩
    · obtain rfl : v = lv := by rw [← hlv]; unfold lowV; rw [if_neg (by decide)]
      clear hlv
      by_cases hs : t.st = 1
      · by_cases h3 : r = 3
        · by_cases hb2 : v / 2 % 2 = 1
          · rw [decide_eq_true hb2] at q2
            have es : ((t.st : Int) == 1) = true := by rw [hs]; rfl
            have e3 : ((r : Int) == 3) = true := by rw [h3]; rfl
            rw [show writeD t off 8 v = { t with st := 0 } from by rw [hwd]; simp [hs, h3, hb2]]
            have HF := Lib.hid (hp0)
            clear hp0 hbg hPR hid hwd
            go_enter Tryz.func48, Tryz.ntmps48
            go_wp2_with fail
            ((with_reducible refine HP.out.mono ?_); rintro x wz ⟨rfl, rfl⟩)
            clear HP
            go_wp2
            go_ret
            exact ⟨rfl, HF.out⟩
          · rw [decide_eq_false hb2] at q2
            have es : ((t.st : Int) == 1) = true := by rw [hs]; rfl
            have e3 : ((r : Int) == 3) = true := by rw [h3]; rfl
            rw [show writeD t off 8 v = t from by rw [hwd]; simp [hs, h3, hb2]]
            have HF := Lib.hid (hid)
            clear hp0 hbg hPR hid hwd
            go_enter Tryz.func48, Tryz.ntmps48
            go_wp2_with fail
            ((with_reducible refine HP.out.mono ?_); rintro x wz ⟨rfl, rfl⟩)
            clear HP
            go_wp2
            go_ret
            exact ⟨rfl, HF.out⟩
        · have es : ((t.st : Int) == 1) = true := by rw [hs]; rfl
          have e3 : ((r : Int) == 3) = false := by simp; omega
          rw [show writeD t off 8 v = t from by rw [hwd]; simp [hs, h3]]
          have HF := Lib.hid (hid)
          clear hp0 hbg hPR hid hwd
          go_enter Tryz.func48, Tryz.ntmps48
          go_wp2_with fail
          ((with_reducible refine HP.out.mono ?_); rintro x wz ⟨rfl, rfl⟩)
          clear HP
          go_wp2
          go_ret
          exact ⟨rfl, HF.out⟩
      · by_cases h4 : r = 4
        · have e3 : ((r : Int) == 3) = false := by simp; omega
          have es : ((t.st : Int) == 1) = false := by simp; omega
          have e4 : ((r : Int) == 4) = true := by rw [h4]; rfl
          rw [show writeD t off 8 v = t from by rw [hwd]; simp [hs, h4]]
          have HF := Lib.hid (hid)
          clear hp0 hbg hPR hid hwd
          go_enter Tryz.func48, Tryz.ntmps48
          go_wp2_with fail
          ((with_reducible refine HP.out.mono ?_); rintro x wz ⟨rfl, rfl⟩)
          clear HP
          go_wp2
          go_ret
          exact ⟨rfl, HF.out⟩
        · by_cases h3 : r = 3
          · by_cases hb1 : v % 2 = 1
            · rw [decide_eq_true hb1] at q1
              have es : ((t.st : Int) == 1) = false := by simp; omega
              have e4 : ((r : Int) == 4) = false := by simp; omega
              have e3 : ((r : Int) == 3) = true := by rw [h3]; rfl
              rw [show writeD t off 8 v = beginD t from by rw [hwd]; simp [hs, h4, h3, hb1]]
              have HF := Lib.hid (hbg)
              clear hp0 hbg hPR hid hwd
              go_enter Tryz.func48, Tryz.ntmps48
              go_wp2_with fail
              ((with_reducible refine HP.out.mono ?_); rintro x wz ⟨rfl, rfl⟩)
              clear HP
              go_wp2_with fail
              ((with_reducible refine HF.out.mono ?_); rintro x w2 ⟨rfl, h2⟩)
              have HF := Lib.hid h2
              clear h2
              go_wp2
              go_ret
              exact ⟨rfl, HF.out⟩
            · rw [decide_eq_false hb1] at q1
              by_cases hb2 : v / 2 % 2 = 1
              · rw [decide_eq_true hb2] at q2
                have es : ((t.st : Int) == 1) = false := by simp; omega
                have e4 : ((r : Int) == 4) = false := by simp; omega
                have e3 : ((r : Int) == 3) = true := by rw [h3]; rfl
                rw [show writeD t off 8 v = { t with st := 0 } from by rw [hwd]; simp [hs, h4, h3, hb1, hb2]]
                have HF := Lib.hid (hp0)
                clear hp0 hbg hPR hid hwd
                go_enter Tryz.func48, Tryz.ntmps48
                go_wp2_with fail
                ((with_reducible refine HP.out.mono ?_); rintro x wz ⟨rfl, rfl⟩)
                clear HP
                go_wp2
                go_ret
                exact ⟨rfl, HF.out⟩
              · rw [decide_eq_false hb2] at q2
                have es : ((t.st : Int) == 1) = false := by simp; omega
                have e4 : ((r : Int) == 4) = false := by simp; omega
                have e3 : ((r : Int) == 3) = true := by rw [h3]; rfl
                rw [show writeD t off 8 v = t from by rw [hwd]; simp [hs, h4, h3, hb1, hb2]]
                have HF := Lib.hid (hid)
                clear hp0 hbg hPR hid hwd
                go_enter Tryz.func48, Tryz.ntmps48
                go_wp2_with fail
                ((with_reducible refine HP.out.mono ?_); rintro x wz ⟨rfl, rfl⟩)
                clear HP
                go_wp2
                go_ret
                exact ⟨rfl, HF.out⟩
          · rw [hR h3 h4] at hc
            obtain ⟨N, hN⟩ : ∃ N, v = N := ⟨_, rfl⟩
            rw [show writeD t off 8 v = putE t (8 * r) N from by rw [hwd, ← hN]; simp [hs, h4, h3]]
            have es : ((t.st : Int) == 1) = false := by simp; omega
            have e4 : ((r : Int) == 4) = false := by simp; omega
            have e3 : ((r : Int) == 3) = false := by simp; omega
            subst hN
            have HF := Lib.hid (hPR v h3 h4)
            clear hp0 hbg hPR hid hwd
            go_enter Tryz.func48, Tryz.ntmps48
            go_wp2_with fail
            ((with_reducible refine HP.out.mono ?_); rintro x wz ⟨rfl, rfl⟩)
            clear HP
            go_wp2
            go_ret
            exact ⟨rfl, HF.out⟩
    · have hlm : (v : Int) % 4294967296 = (lv : Int) := by rw [← hlv]; unfold lowV; rw [if_pos rfl]; omega
      have hl32 : lv < 4294967296 := by rw [← hlv]; unfold lowV; rw [if_pos rfl]; omega
      clear hlv
      by_cases hs : t.st = 1
      · by_cases h3 : r = 3
        · by_cases hb2 : lv / 2 % 2 = 1
          · rw [decide_eq_true hb2] at q2
            have es : ((t.st : Int) == 1) = true := by rw [hs]; rfl
            have e3 : ((r : Int) == 3) = true := by rw [h3]; rfl
            rw [show writeD t off 4 v = { t with st := 0 } from by rw [hwd]; simp [hs, h3, hb2]]
            have HF := Lib.hid (hp0)
            clear hp0 hbg hPR hid hwd
            go_enter Tryz.func48, Tryz.ntmps48
            go_wp2_with fail
            ((with_reducible refine HP.out.mono ?_); rintro x wz ⟨rfl, rfl⟩)
            clear HP
            go_wp2
            go_ret
            exact ⟨rfl, HF.out⟩
          · rw [decide_eq_false hb2] at q2
            have es : ((t.st : Int) == 1) = true := by rw [hs]; rfl
            have e3 : ((r : Int) == 3) = true := by rw [h3]; rfl
            rw [show writeD t off 4 v = t from by rw [hwd]; simp [hs, h3, hb2]]
            have HF := Lib.hid (hid)
            clear hp0 hbg hPR hid hwd
            go_enter Tryz.func48, Tryz.ntmps48
            go_wp2_with fail
            ((with_reducible refine HP.out.mono ?_); rintro x wz ⟨rfl, rfl⟩)
            clear HP
            go_wp2
            go_ret
            exact ⟨rfl, HF.out⟩
        · have es : ((t.st : Int) == 1) = true := by rw [hs]; rfl
          have e3 : ((r : Int) == 3) = false := by simp; omega
          rw [show writeD t off 4 v = t from by rw [hwd]; simp [hs, h3]]
          have HF := Lib.hid (hid)
          clear hp0 hbg hPR hid hwd
          go_enter Tryz.func48, Tryz.ntmps48
          go_wp2_with fail
          ((with_reducible refine HP.out.mono ?_); rintro x wz ⟨rfl, rfl⟩)
          clear HP
          go_wp2
          go_ret
          exact ⟨rfl, HF.out⟩
      · by_cases h4 : r = 4
        · have e3 : ((r : Int) == 3) = false := by simp; omega
          have es : ((t.st : Int) == 1) = false := by simp; omega
          have e4 : ((r : Int) == 4) = true := by rw [h4]; rfl
          rw [show writeD t off 4 v = t from by rw [hwd]; simp [hs, h4]]
          have HF := Lib.hid (hid)
          clear hp0 hbg hPR hid hwd
          go_enter Tryz.func48, Tryz.ntmps48
          go_wp2_with fail
          ((with_reducible refine HP.out.mono ?_); rintro x wz ⟨rfl, rfl⟩)
          clear HP
          go_wp2
          go_ret
          exact ⟨rfl, HF.out⟩
        · by_cases h3 : r = 3
          · by_cases hb1 : lv % 2 = 1
            · rw [decide_eq_true hb1] at q1
              have es : ((t.st : Int) == 1) = false := by simp; omega
              have e4 : ((r : Int) == 4) = false := by simp; omega
              have e3 : ((r : Int) == 3) = true := by rw [h3]; rfl
              rw [show writeD t off 4 v = beginD t from by rw [hwd]; simp [hs, h4, h3, hb1]]
              have HF := Lib.hid (hbg)
              clear hp0 hbg hPR hid hwd
              go_enter Tryz.func48, Tryz.ntmps48
              go_wp2_with fail
              ((with_reducible refine HP.out.mono ?_); rintro x wz ⟨rfl, rfl⟩)
              clear HP
              go_wp2_with fail
              ((with_reducible refine HF.out.mono ?_); rintro x w2 ⟨rfl, h2⟩)
              have HF := Lib.hid h2
              clear h2
              go_wp2
              go_ret
              exact ⟨rfl, HF.out⟩
            · rw [decide_eq_false hb1] at q1
              by_cases hb2 : lv / 2 % 2 = 1
              · rw [decide_eq_true hb2] at q2
                have es : ((t.st : Int) == 1) = false := by simp; omega
                have e4 : ((r : Int) == 4) = false := by simp; omega
                have e3 : ((r : Int) == 3) = true := by rw [h3]; rfl
                rw [show writeD t off 4 v = { t with st := 0 } from by rw [hwd]; simp [hs, h4, h3, hb1, hb2]]
                have HF := Lib.hid (hp0)
                clear hp0 hbg hPR hid hwd
                go_enter Tryz.func48, Tryz.ntmps48
                go_wp2_with fail
                ((with_reducible refine HP.out.mono ?_); rintro x wz ⟨rfl, rfl⟩)
                clear HP
                go_wp2
                go_ret
                exact ⟨rfl, HF.out⟩
              · rw [decide_eq_false hb2] at q2
                have es : ((t.st : Int) == 1) = false := by simp; omega
                have e4 : ((r : Int) == 4) = false := by simp; omega
                have e3 : ((r : Int) == 3) = true := by rw [h3]; rfl
                rw [show writeD t off 4 v = t from by rw [hwd]; simp [hs, h4, h3, hb1, hb2]]
                have HF := Lib.hid (hid)
                clear hp0 hbg hPR hid hwd
                go_enter Tryz.func48, Tryz.ntmps48
                go_wp2_with fail
                ((with_reducible refine HP.out.mono ?_); rintro x wz ⟨rfl, rfl⟩)
                clear HP
                go_wp2
                go_ret
                exact ⟨rfl, HF.out⟩
          · rw [hR h3 h4] at hc
            obtain ⟨N, hN⟩ : ∃ N, (t.rg (8 * r) / 4294967296 * 4294967296 + lv) = N := ⟨_, rfl⟩
            rw [show writeD t off 4 v = putE t (8 * r) N from by rw [hwd, ← hN]; simp [hs, h4, h3]]
            have es : ((t.st : Int) == 1) = false := by simp; omega
            have e4 : ((r : Int) == 4) = false := by simp; omega
            have e3 : ((r : Int) == 3) = false := by simp; omega
            have hN2 : (t.rg (8 * r) : Int) / 4294967296 * 4294967296 + (lv : Int) = (N : Int) := by omega
            have hNl : N < 18446744073709551616 := by omega
            have HF := Lib.hid (hPR N h3 h4)
            clear hp0 hbg hPR hid hwd hN
            go_enter Tryz.func48, Tryz.ntmps48
            go_wp2_with fail
            ((with_reducible refine HP.out.mono ?_); rintro x wz ⟨rfl, rfl⟩)
            clear HP
            go_wp2
            go_ret
            exact ⟨rfl, HF.out⟩
    · have hlm : (v : Int) % 4294967296 = (lv : Int) := by rw [← hlv]; unfold lowV; rw [if_pos rfl]; omega
      have hl32 : lv < 4294967296 := by rw [← hlv]; unfold lowV; rw [if_pos rfl]; omega
      clear hlv
      by_cases hs : t.st = 1
      · by_cases h3 : r = 3
        · have es : ((t.st : Int) == 1) = true := by rw [hs]; rfl
          have e3 : ((r : Int) == 3) = true := by rw [h3]; rfl
          rw [show writeD t off 4 v = t from by rw [hwd]; simp [hs, h3]]
          have HF := Lib.hid (hid)
          clear hp0 hbg hPR hid hwd
          go_enter Tryz.func48, Tryz.ntmps48
          go_wp2_with fail
          ((with_reducible refine HP.out.mono ?_); rintro x wz ⟨rfl, rfl⟩)
          clear HP
          go_wp2
          go_ret
          exact ⟨rfl, HF.out⟩
        · have es : ((t.st : Int) == 1) = true := by rw [hs]; rfl
          have e3 : ((r : Int) == 3) = false := by simp; omega
          rw [show writeD t off 4 v = t from by rw [hwd]; simp [hs, h3]]
          have HF := Lib.hid (hid)
          clear hp0 hbg hPR hid hwd
          go_enter Tryz.func48, Tryz.ntmps48
          go_wp2_with fail
          ((with_reducible refine HP.out.mono ?_); rintro x wz ⟨rfl, rfl⟩)
          clear HP
          go_wp2
          go_ret
          exact ⟨rfl, HF.out⟩
      · by_cases h4 : r = 4
        · have e3 : ((r : Int) == 3) = false := by simp; omega
          have es : ((t.st : Int) == 1) = false := by simp; omega
          have e4 : ((r : Int) == 4) = true := by rw [h4]; rfl
          rw [show writeD t off 4 v = t from by rw [hwd]; simp [hs, h4]]
          have HF := Lib.hid (hid)
          clear hp0 hbg hPR hid hwd
          go_enter Tryz.func48, Tryz.ntmps48
          go_wp2_with fail
          ((with_reducible refine HP.out.mono ?_); rintro x wz ⟨rfl, rfl⟩)
          clear HP
          go_wp2
          go_ret
          exact ⟨rfl, HF.out⟩
        · by_cases h3 : r = 3
          · have es : ((t.st : Int) == 1) = false := by simp; omega
            have e4 : ((r : Int) == 4) = false := by simp; omega
            have e3 : ((r : Int) == 3) = true := by rw [h3]; rfl
            rw [show writeD t off 4 v = t from by rw [hwd]; simp [hs, h4, h3]]
            have HF := Lib.hid (hid)
            clear hp0 hbg hPR hid hwd
            go_enter Tryz.func48, Tryz.ntmps48
            go_wp2_with fail
            ((with_reducible refine HP.out.mono ?_); rintro x wz ⟨rfl, rfl⟩)
            clear HP
            go_wp2
            go_ret
            exact ⟨rfl, HF.out⟩
          · rw [hR h3 h4] at hc
            obtain ⟨N, hN⟩ : ∃ N, (t.rg (8 * r) % 4294967296 + lv * 4294967296) = N := ⟨_, rfl⟩
            rw [show writeD t off 4 v = putE t (8 * r) N from by rw [hwd, ← hN]; simp [hs, h4, h3]]
            have es : ((t.st : Int) == 1) = false := by simp; omega
            have e4 : ((r : Int) == 4) = false := by simp; omega
            have e3 : ((r : Int) == 3) = false := by simp; omega
            have hN2 : (t.rg (8 * r) : Int) % 4294967296 + (lv : Int) * 4294967296 = (N : Int) := by omega
            have hw1 : IntKind.u64.wrap ((lv : Int) * 4294967296) = (lv : Int) * 4294967296 := IntWalk.u64_in _ (by omega)
            have hNl : N < 18446744073709551616 := by omega
            have HF := Lib.hid (hPR N h3 h4)
            clear hp0 hbg hPR hid hwd hN
            go_enter Tryz.func48, Tryz.ntmps48
            go_wp2_with fail
            ((with_reducible refine HP.out.mono ?_); rintro x wz ⟨rfl, rfl⟩)
            clear HP
            go_wp2
            go_ret
            exact ⟨rfl, HF.out⟩
end
end Go.Proofs.YtonhlgfgbdiapaaGreat
