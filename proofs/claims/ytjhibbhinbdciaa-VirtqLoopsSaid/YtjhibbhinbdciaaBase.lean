import Derived.WalkKit
import Derived.ProofKit
import Derived.Lib.Hide
import Derived.Deep.QuietTactic
import Derived.BigRegion
import Derived.Deep.RegionHeld3
import Derived.BigQuiet
import Derived.StillTailTactics
import Derived.Laws.BitsAllLaws
import Derived.Laws.OwnMore
import Derived.Laws.BitsLemmas
import Derived.Great.BuildSlice
import Derived.Deep.AppendLies
import Derived.Deep.RegionLaw
import Derived.OrdersHeld
import Derived.Deep.DeepCutAuto
import Derived.Deep.CutBlock
/- Seat-independent words and lemmas used by all my texts. -/
namespace Go.Proofs.Ytjhibbhinbdciaa
set_option linter.unusedVariables false
open Go.RowKit

/-- the number that n bytes from o on make, the lowest first -/
def num (f : Nat → Int) : Nat → Nat → Int
  | _, 0 => 0
  | o, n + 1 => f o + 256 * num f (o + 1) n

theorem num_nonneg {f : Nat → Int} (hf : ∀ i, 0 ≤ f i ∧ f i < 256) (n : Nat) : ∀ o, 0 ≤ num f o n := by
  induction n with
  | zero => intro o; simp [num]
  | succ n ih => intro o; have := ih (o + 1); have := (hf o).1; simp only [num]; omega

theorem num_lt {f : Nat → Int} (hf : ∀ i, 0 ≤ f i ∧ f i < 256) (n : Nat) : ∀ o, num f o n < 256 ^ n := by
  induction n with
  | zero => intro o; simp [num]
  | succ n ih => intro o; have := ih (o + 1); have := (hf o).2; simp only [num, Int.pow_succ]; omega

theorem pow256_le {n m : Nat} (h : n ≤ m) : (256 : Int) ^ n ≤ 256 ^ m := by
  have h1 : ((256 ^ n : Nat) : Int) ≤ ((256 ^ m : Nat) : Int) := Int.ofNat_le.2 (Nat.pow_le_pow_right (by decide) h)
  rwa [Int.natCast_pow, Int.natCast_pow] at h1

theorem num_lt7 {f : Nat → Int} (hf : ∀ i, 0 ≤ f i ∧ f i < 256) (o : Nat) {n : Nat} (hn : n ≤ 7) : num f o n < 72057594037927936 :=
  Int.lt_of_lt_of_le (num_lt hf n o) (by have := pow256_le hn; rwa [show (256 : Int) ^ 7 = 72057594037927936 from rfl] at this)

theorem num_congr {f g : Nat → Int} (n : Nat) : ∀ o, (∀ i, o ≤ i → i < o + n → f i = g i) → num f o n = num g o n := by
  induction n with
  | zero => intro o _; rfl
  | succ n ih => intro o h; simp only [num]; rw [h o (by omega) (by omega), ih (o + 1) (fun i h1 h2 => h i (by omega) (by omega))]

theorem num_snoc (f : Nat → Int) (n : Nat) : ∀ o, num f o (n + 1) = num f o n + f (o + n) * 256 ^ n := by
  induction n with
  | zero => intro o; simp [num]
  | succ n ih =>
    intro o
    rw [num, ih (o + 1)]
    rw [show num f o (n + 1) = f o + 256 * num f (o + 1) n from rfl, Int.pow_succ, show o + 1 + n = o + (n + 1) from by omega, Int.mul_add]
    rw [show 256 * (f (o + (n + 1)) * 256 ^ n) = f (o + (n + 1)) * (256 ^ n * 256) from by rw [Int.mul_left_comm, Int.mul_comm 256 (256 ^ n)]]
    omega
theorem pow256 (n : Nat) : (256 : Int) ^ n = 2 ^ (8 * n) := by rw [Int.pow_mul]; rfl
/-- one more byte at the high end -/
theorem or_high {z y : Int} {n : Nat} (hn : n ≤ 7) (hz : 0 ≤ z) (hz1 : z < 256 ^ n) (hy : 0 ≤ y) (hy1 : y < 256) : bits .or .u64 z (y * 256 ^ n) = z + y * 256 ^ n := by
  obtain ⟨a, rfl⟩ := Int.eq_ofNat_of_zero_le hz
  obtain ⟨b, rfl⟩ := Int.eq_ofNat_of_zero_le hy
  have e : (256 : Int) ^ n = ((2 ^ (8 * n) : Nat) : Int) := by rw [pow256]; simp
  rw [e] at hz1 ⊢
  have ha : a < 2 ^ (8 * n) := by omega
  have hp : 2 ^ (8 * n) ≤ 2 ^ 56 := Nat.pow_le_pow_right (by decide) (by omega)
  have hb : b * 2 ^ (8 * n) ≤ 255 * 2 ^ 56 := Nat.mul_le_mul (by omega) hp
  have hb' : b * 2 ^ (8 * n) < 18446744073709551616 := by omega
  rw [← Int.natCast_mul, u64_or_nat a _ (by omega) hb', Nat.or_comm, nat_join (8 * n) _ _ (Nat.mul_mod_left _ _) ha]
  omega
theorem wrap_high {y : Int} {n : Nat} (hn : n ≤ 7) (hy : 0 ≤ y) (hy1 : y < 256) : IntKind.u64.wrap (y * 2 ^ (8 * n)) = y * 256 ^ n := by
  obtain ⟨b, rfl⟩ := Int.eq_ofNat_of_zero_le hy
  have e : (2 : Int) ^ (8 * n) = ((2 ^ (8 * n) : Nat) : Int) := by simp
  rw [pow256, e]
  have hp : 2 ^ (8 * n) ≤ 2 ^ 56 := Nat.pow_le_pow_right (by decide) (by omega)
  have hb : b * 2 ^ (8 * n) ≤ 255 * 2 ^ 56 := Nat.mul_le_mul (by omega) hp
  rw [← Int.natCast_mul]
  exact IntWalk.u64_in _ (by omega)
/-- one more byte at the low end -/
theorem or_shl8 {x y : Int} (hx : 0 ≤ x) (hx1 : x < 72057594037927936) (hy : 0 ≤ y) (hy1 : y < 256) : bits .or .u64 (x * 256) y = y + 256 * x := by
  rw [u64_or _ _ (by omega) (by omega) (by omega) (by omega), nat_join 8 _ _ (by omega) (by omega)]
  omega

/-- byte k of a number -/
def byteOf (v : Int) (k : Nat) : Int := v / 256 ^ k % 256
theorem byteOf_bd (v : Int) (k : Nat) : 0 ≤ byteOf v k ∧ byteOf v k < 256 := by unfold byteOf; omega
/-- bytes with a number laid over them -/
def put (f : Nat → Int) (o n : Nat) (v : Int) : Nat → Int := fun j => if o ≤ j ∧ j < o + n then byteOf v (j - o) else f j
theorem put_zero (f : Nat → Int) (o : Nat) (v : Int) : put f o 0 v = f := by
  funext j; unfold put; rw [if_neg (by omega)]
theorem put_succ (f : Nat → Int) (o n : Nat) (v : Int) (i : Nat) : put f o (n + 1) v i = if i = o + n then byteOf v n else put f o n v i := by
  unfold put
  by_cases h : i = o + n
  · subst h; rw [if_pos (by omega), if_pos rfl, Nat.add_sub_cancel_left]
  · rw [if_neg h]
    by_cases h2 : o ≤ i ∧ i < o + n
    · rw [if_pos (by omega), if_pos h2]
    · rw [if_neg (by omega), if_neg h2]
theorem put_bd {f : Nat → Int} (hf : ∀ i, 0 ≤ f i ∧ f i < 256) (o n : Nat) (v : Int) : ∀ i, 0 ≤ put f o n v i ∧ put f o n v i < 256 := by
  intro i; unfold put; split
  · exact byteOf_bd _ _
  · exact hf i
theorem byteOf_zero (v : Int) : byteOf v 0 = v % 256 := by simp [byteOf]
theorem byteOf_succ (v : Int) (k : Nat) : byteOf v (k + 1) = byteOf (v / 256) k := by
  unfold byteOf
  rw [Int.pow_succ, Int.mul_comm, Int.ediv_ediv_of_nonneg (by decide)]
theorem emod_mul' (v M : Int) : v % 256 + 256 * (v / 256 % M) = v % (256 * M) := by
  have h1 : v / (256 * M) = v / 256 / M := (Int.ediv_ediv_of_nonneg (by decide)).symm
  have h2 := Int.emod_def v (256 * M)
  have h3 := Int.emod_def (v / 256) M
  rw [h1, Int.mul_assoc] at h2
  generalize M * (v / 256 / M) = x at *
  omega
theorem num_bytes (n : Nat) : ∀ (v : Int) (o : Nat) (f : Nat → Int), (∀ k, k < n → f (o + k) = byteOf v k) → num f o n = v % 256 ^ n := by
  induction n with
  | zero => intro v o f _; simp [num, Int.emod_one]
  | succ n ih =>
    intro v o f h
    simp only [num]
    rw [ih (v / 256) (o + 1) f (fun k hk => by rw [← byteOf_succ, ← h (k + 1) (by omega), show o + 1 + k = o + (k + 1) from by omega])]
    have h0 := h 0 (by omega)
    rw [Nat.add_zero, byteOf_zero] at h0
    rw [h0, Int.pow_succ, Int.mul_comm (256 ^ n) 256, emod_mul']
theorem num_put (f : Nat → Int) (o n : Nat) (v : Int) : num (put f o n v) o n = v % 256 ^ n :=
  num_bytes n v o _ (fun k hk => by unfold put; rw [if_pos (by omega), Nat.add_sub_cancel_left])
theorem num_put_far (f : Nat → Int) (o n a m : Nat) (v : Int) (h : a + m ≤ o ∨ o + n ≤ a) : num (put f o n v) a m = num f a m :=
  num_congr m a (fun i h1 h2 => by unfold put; rw [if_neg (by omega)])
theorem byteOf_num {f : Nat → Int} (hf : ∀ i, 0 ≤ f i ∧ f i < 256) (n : Nat) : ∀ (o k : Nat), k < n → byteOf (num f o n) k = f (o + k) := by
  induction n with
  | zero => intro o k h; omega
  | succ n ih =>
    intro o k h
    have h0 := hf o
    simp only [num]
    cases k with
    | zero => rw [byteOf_zero]; simp; omega
    | succ k =>
      rw [byteOf_succ, show (f o + 256 * num f (o + 1) n) / 256 = num f (o + 1) n from by omega, ih (o + 1) k (by omega), show o + 1 + k = o + (k + 1) from by omega]
theorem shr_byte (v : Int) (k : Nat) : (v / 2 ^ (8 * k)) % 256 = byteOf v k := by
  unfold byteOf
  rw [Int.pow_mul]; rfl

/-- a slice value that holds the cells xs (n elements of so many cells), nil let in; it lies below block B -/
def Reads (w : World) (B size : Nat) (A : Option Addr) (n : Nat) (xs : List Value) : Prop :=
  xs.length = n * size ∧ (0 < n → ∃ ad, A = some ad ∧ ad.block < B ∧ ∀ j u, xs[j]? = some u → w.cell? (ad.add j) = some u)
theorem block_of_add (a : Addr) (n : Nat) : (a.add n).block = a.block := by unfold Addr.add; split <;> rfl
theorem Reads.at_ {w : World} {B n k : Nat} {A : Option Addr} {xs : List Value} (h : Reads w B 1 A n xs) (hk : k < n) : ∃ ad u, A = some ad ∧ ad.block < B ∧ xs[k]? = some u ∧ w.cell? (ad.add k) = some u := by
  obtain ⟨ad, e, hb, hc⟩ := h.2 (by omega)
  have hl : k < xs.length := by have := h.1; omega
  exact ⟨ad, xs[k], e, hb, List.getElem?_eq_getElem hl, hc k _ (List.getElem?_eq_getElem hl)⟩
theorem Reads.below {w w' : World} {B size n : Nat} {A : Option Addr} {xs : List Value} (h : Reads w B size A n xs) (hb : Below B w w') : Reads w' B size A n xs :=
  ⟨h.1, fun hn => by
    obtain ⟨ad, e, hb', hc⟩ := h.2 hn
    exact ⟨ad, e, hb', fun j u hu => (hb.cell (by rw [block_of_add]; exact hb')).trans (hc j u hu)⟩⟩

/-- only the blocks of S, and new ones, have turned -/
structure Upd (S : Nat → Prop) (w w' : World) : Prop where
  os : w'.os = w.os
  tape : w'.tape = w.tape
  output : w'.output = w.output
  size : w.heap.size ≤ w'.heap.size
  block : ∀ i, i < w.heap.size → ¬ S i → w'.heap[i]? = w.heap[i]?

section
variable {S S' : Nat → Prop} {w w' a b c : World} {g : Nat} {t : TypeId} {cs : Array Value}
theorem Upd.refl (S : Nat → Prop) (w : World) : Upd S w w := ⟨rfl, rfl, rfl, Nat.le_refl _, fun _ _ _ => rfl⟩
theorem Upd.trans (h : Upd S a b) (k : Upd S b c) : Upd S a c :=
  ⟨k.os.trans h.os, k.tape.trans h.tape, k.output.trans h.output, Nat.le_trans h.size k.size,
   fun i hi hs => (k.block i (Nat.lt_of_lt_of_le hi h.size) hs).trans (h.block i hi hs)⟩
theorem Upd.mono (h : Upd S a b) (hs : ∀ i, i < a.heap.size → S i → S' i) : Upd S' a b :=
  ⟨h.os, h.tape, h.output, h.size, fun i hi hn => h.block i hi (fun x => hn (hs i hi x))⟩
/-- the second step may turn what the first one made -/
theorem Upd.trans' (h : Upd S a b) (k : Upd S' b c) (hs : ∀ i, i < a.heap.size → S' i → S i) : Upd S a c :=
  ⟨k.os.trans h.os, k.tape.trans h.tape, k.output.trans h.output, Nat.le_trans h.size k.size,
   fun i hi hn => (k.block i (Nat.lt_of_lt_of_le hi h.size) (fun x => hn (hs i hi x))).trans (h.block i hi hn)⟩
theorem Upd.drewN (h : Upd S a b) (n : Nat) : Upd S a (b.drewN n) := ⟨h.os, h.tape, h.output, h.size, h.block⟩
theorem Upd.drew (h : Upd S a b) : Upd S a b.drew := ⟨h.os, h.tape, h.output, h.size, h.block⟩
theorem Upd.alloc (h : Upd S a b) (o : Obj) : Upd S a (b.alloc o) :=
  ⟨h.os, h.tape, h.output, Nat.le_trans h.size (by simp), fun i hi hn => (Below.heap_alloc b o i (Nat.lt_of_lt_of_le hi h.size)).trans (h.block i hi hn)⟩
theorem Upd.setCell (h : Upd S a b) {p : Addr} (hp : S p.block ∨ a.heap.size ≤ p.block) (u : Value) : Upd S a (b.setCell p u) :=
  ⟨h.os, h.tape, h.output, by simpa [World.setCell] using h.size, fun i hi hn => (Below.heap_setCell b p u i (by
    rintro rfl
    rcases hp with hp | hp
    · exact hn hp
    · omega)).trans (h.block i hi hn)⟩
theorem Upd.grown {row : Option Nat} (h : Upd S a b) (hg : b.grownBy c row) (hr : ∀ k, row = some k → S k ∨ a.heap.size ≤ k) : Upd S a c :=
  ⟨hg.os.trans h.os, hg.tape.trans h.tape, hg.output.trans h.output, Nat.le_trans h.size hg.size,
   fun i hi hn => (hg.block i (Nat.lt_of_lt_of_le hi h.size) (fun e => by
     rcases hr i e.symm with x | x
     · exact hn x
     · omega)).trans (h.block i hi hn)⟩
theorem Upd.of_grown {row : Option Nat} (hg : b.grownBy c row) : Upd (fun i => row = some i) b c :=
  (Upd.refl _ b).grown hg (fun _ e => .inl e)
theorem Upd.toBelow {B : Nat} (h : Upd S a b) (hB : B ≤ a.heap.size) (hs : ∀ i, i < B → ¬ S i) : Below B a b :=
  ⟨h.os, h.tape, h.output, h.size, fun i hi => h.block i (Nat.lt_of_lt_of_le hi hB) (hs i hi)⟩
theorem Upd.of_below {B : Nat} (h : Below B a b) : Upd (fun i => B ≤ i) a b :=
  ⟨h.os, h.tape, h.output, h.size, fun i _ hn => h.block i (by omega)⟩

theorem Upd.toGrown {b : Nat} (h : Upd (· = b) w w') : w.grownBy w' (some b) :=
  ⟨h.os, h.tape, h.output, h.size, fun i hi hn => h.block i hi (fun e => hn (by rw [e]))⟩
theorem Upd.cell (h : Upd S w w') {p : Addr} (hp : p.block < w.heap.size) (hs : ¬ S p.block) : w'.cell? p = w.cell? p := World.cell?_of_block (h.block _ hp hs)

/-- block g is just the cells cs of element type t, none frozen -/
def Blk (w : World) (g : Nat) (t : TypeId) (cs : Array Value) : Prop := w.heap[g]? = some (.cells cs t (0, 0))
theorem Blk.lt (h : Blk w g t cs) : g < w.heap.size := by
  rcases Nat.lt_or_ge g w.heap.size with hlt | hge
  · exact hlt
  · unfold Blk at h; rw [Array.getElem?_eq_none hge] at h; cases h
theorem Blk.cell (h : Blk w g t cs) (i : Nat) : w.cell? ⟨g, i, none⟩ = cs[i]? := cell_of_row w g i cs t (0, 0) h
theorem Blk.frozen (h : Blk w g t cs) (i : Nat) : w.frozen? ⟨g, i, none⟩ = false := by
  unfold Blk at h
  simp [World.frozen?, h]
theorem Blk.new (w : World) (t : TypeId) (cs : Array Value) : Blk (w.alloc (.cells cs t)) w.heap.size t cs := heap_alloc_new w _
theorem Blk.drew (h : Blk w g t cs) : Blk w.drew g t cs := h
theorem Blk.drewN (h : Blk w g t cs) (n : Nat) : Blk (w.drewN n) g t cs := h
theorem Blk.alloc (h : Blk w g t cs) (o : Obj) : Blk (w.alloc o) g t cs := (Below.heap_alloc w o g h.lt).trans h
theorem Blk.set_ (h : Blk w g t cs) (i : Nat) (u : Value) : Blk (w.setCell ⟨g, i, none⟩ u) g t (cs.setIfInBounds i u) := by
  unfold Blk at h ⊢
  simp [World.setCell, Array.getElem?_modify, h]
theorem Blk.far (h : Blk w g t cs) {p : Addr} (hp : g ≠ p.block) (u : Value) : Blk (w.setCell p u) g t cs := (Below.heap_setCell w p u g hp).trans h
theorem Blk.below {B : Nat} (h : Blk w g t cs) (hb : Below B w w') (hg : g < B) : Blk w' g t cs := (hb.block g hg).trans h
theorem Blk.upd (h : Blk w g t cs) (hb : Upd S w w') (hg : ¬ S g) : Blk w' g t cs := (hb.block g h.lt hg).trans h
theorem Blk.ne_ {g' : Nat} {t' : TypeId} {cs' : Array Value} (h : Blk w g t cs) (h' : Blk w g' t' cs') (hne : t ≠ t') : g ≠ g' := by
  rintro rfl
  unfold Blk at h h'
  rw [h] at h'
  injection h' with h'
  injection h' with _ ht
  exact hne ht
theorem Blk.grown {row : Option Nat} (h : Blk w g t cs) (hb : w.grownBy w' row) (hg : some g ≠ row) : Blk w' g t cs := (hb.block g h.lt hg).trans h
theorem own_blk_ne {base : Nat} {e : TypeId} {size n : Nat} {v : Value} {xs : List Value} (h : w.ownsRow base e size v n xs) (hg : Blk w g t cs) (hne : e ≠ t) : v.ownBlock ≠ some g := by
  rcases h.2 with ⟨rfl, _⟩ | ⟨g', cap, cur, rfl, _, hh, _⟩
  · simp [Value.ownBlock]
  · intro he
    have : g' = g := by simpa [Value.ownBlock] using he
    subst this
    exact Blk.ne_ (t := e) hh hg hne rfl
theorem Blk.inj {t' : TypeId} {cs' : Array Value} (h : Blk w g t cs) (h' : Blk w g t' cs') : cs = cs' ∧ t = t' := by
  unfold Blk at h h'
  rw [h] at h'
  injection h' with h'
  injection h' with h1 h2
  exact ⟨h1, h2⟩
end

theorem lt_of_cell? {c : Array Value} {i : Nat} {v : Value} (h : c[i]? = some v) : i < c.size := (Array.getElem?_eq_some_iff.1 h).1
theorem getElem?_set_ne {c : Array Value} {i j : Nat} (v : Value) (h : j ≠ i) : (c.setIfInBounds i v)[j]? = c[j]? := by
  rw [Array.getElem?_setIfInBounds, if_neg (by omega)]
theorem getElem?_set_eq {c : Array Value} {i : Nat} (v : Value) (h : i < c.size) : (c.setIfInBounds i v)[i]? = some v := by
  rw [Array.getElem?_setIfInBounds, if_pos rfl, if_pos h]

theorem Reads.of_own {w : World} {base : Nat} {e : TypeId} {A : Option Addr} {n c size : Nat} {xs : List Value} (h : w.ownsRow base e size (.slice A n c) n xs) : Reads w w.heap.size size A n xs := by
  refine ⟨h.1, fun hn => ?_⟩
  rcases h.2 with ⟨_, h0⟩ | ⟨g, cap, cur, hv, _, hb, _⟩
  · omega
  · have hA : A = some ⟨g, 0, none⟩ := by injection hv
    subst hA
    exact ⟨_, rfl, Blk.lt hb, h.cells (g := g) rfl⟩
theorem Reads.more {w : World} {B B' size n : Nat} {A : Option Addr} {xs : List Value} (h : Reads w B size A n xs) (hB : B ≤ B') : Reads w B' size A n xs :=
  ⟨h.1, fun hn => by
    obtain ⟨ad, e, hb, hc⟩ := h.2 hn
    exact ⟨ad, e, by omega, hc⟩⟩
theorem Reads.upd {w w' : World} {S : Nat → Prop} {B size n : Nat} {A : Option Addr} {xs : List Value} (h : Reads w B size A n xs) (hb : Upd S w w') (hB : B ≤ w.heap.size) (hS : ∀ i, i < B → ¬ S i) : Reads w' B size A n xs :=
  h.below (hb.toBelow hB hS)
theorem quiet_left {P : Program} {f : FuncId} {args : Array Value} {w : World} {n : Nat} {v : Value}
    (h : Calls P f args (w.drewN n) fun e w' => e = .returned v ∧ w.drewN n = w') : Calls P f args (w.drewN n) fun e w'' => e = .returned v ∧ ∃ m, w'' = w.drewN m :=
  h.mono fun _ _ ⟨he, hm⟩ => ⟨he, n, hm.symm⟩
/-- an operation whose run is known, in a plain region -/
theorem wpList_run {P : Program} {ops : Array Oper} {Q : Exit → Act → World → Prop} {a : Act} {w w' : World} {rest : List Oper} {o : Oper} {v : Value} (hg : o.guard = none)
    (hrun : (execOp a.eval o).run P w = .ok (.value v) w') (h : wpList P ops Q rest (a.put o.dst v) w') : wpList P ops Q (o :: rest) a w :=
  wpList_plain hg fun K hK => by unfold Oper.wp; rw [hrun]; exact hK _ _ h
theorem wpList_skip_run {P : Program} {ops : Array Oper} {Q : Exit → Act → World → Prop} {a : Act} {w w' : World} {rest : List Oper} {o : Oper} (hg : o.guard = none)
    (hrun : (execOp a.eval o).run P w = .ok .skip w') (h : wpList P ops Q rest (a.put o.dst undef) w') : wpList P ops Q (o :: rest) a w :=
  wpList_plain hg fun K hK => by unfold Oper.wp; rw [hrun]; exact hK _ _ h

section
variable {P : Program} {ops : Array Oper} {Q : Exit → Act → World → Prop} {S : World → Prop}
/-- whatever order is picked from here on; S holds behind each operation but number s -/
def wpE (P : Program) (ops : Array Oper) (Q : Exit → Act → World → Prop) (S : World → Prop) (s : Nat) : Nat → Array Bool → Act → World → Prop
  | 0, done, a, w => Region.ready .any ops done = [] ∧ Q .normal a w
  | n + 1, done, a, w => (Region.ready .any ops done = [] → Q .normal a w) ∧
      ∀ i ∈ Region.ready .any ops done, wpOp P ops Q i (fun a' w' => (i = s ∨ S w') ∧ wpE P ops Q S s n (done.setIfInBounds i true) a' w') a w
theorem wpE_any {s : Nat} : ∀ (n : Nat) (done : Array Bool) (a : Act) (w : World), wpE P ops Q S s n done a w → wpAny P .any ops Q n done a w
  | 0, _, _, _, h => h
  | n + 1, _, _, _, h => ⟨h.1, fun i hi => wpOp_mono (fun a' w' h' => wpE_any n _ a' w' h'.2) (h.2 i hi)⟩
/-- what has been done waits for nothing that has not -/
def shutB (ops : Array Oper) (done : Array Bool) : Bool := (List.range ops.size).all fun j => !(done.getD j false) || (match ops[j]? with | some o => o.after.all fun e => !(Region.binds .any e) || done.getD e.on false | none => true)
def Shut_ (ops : Array Oper) (done : Array Bool) : Prop := ∀ j oj, ops[j]? = some oj → done.getD j false = true → ∀ e ∈ oj.after, Region.binds .any e = true → done.getD e.on false = true
theorem shut_of {done : Array Bool} (h : shutB ops done = true) : Shut_ ops done := by
  intro j oj hj hd e he hb
  have h1 := List.all_eq_true.1 h j (List.mem_range.2 (Array.getElem?_eq_some_iff.1 hj).1)
  simp only [hd, Bool.not_true, Bool.false_or, hj] at h1
  have h2 := Array.all_eq_true_iff_forall_mem.1 h1 e he
  simpa [hb] using h2
theorem Shut_.set {done : Array Bool} {i : Nat} (h : Shut_ ops done) (hi : i ∈ Region.ready .any ops done) : Shut_ ops (done.setIfInBounds i true) := by
  obtain ⟨_, oi, hoi, hall⟩ := mem_ready.1 hi
  intro j oj hj hd e he hb
  rcases Decidable.em (i = j) with rfl | hij
  · rw [hoi] at hj; cases hj
    exact getD_set_true (hall e he hb)
  · rw [getD_set_ne false hij] at hd
    exact getD_set_true (h j oj hj hd e he hb)
/-- j waits for i, straight or by others -/
def reachB (ops : Array Oper) : Nat → Nat → Nat → Bool
  | 0, j, i => Region.waitsFor .any ops j i
  | n + 1, j, i => Region.waitsFor .any ops j i || (List.range ops.size).any fun k => Region.waitsFor .any ops j k && reachB ops n k i
theorem reach_done {done : Array Bool} (h : Shut_ ops done) {i : Nat} : ∀ (n j : Nat), reachB ops n j i = true → (∀ oj, ops[j]? = some oj → ∀ e ∈ oj.after, Region.binds .any e = true → done.getD e.on false = true) → done.getD i false = true := by
  intro n
  induction n with
  | zero =>
    intro j hr hj
    obtain ⟨o', ho', e, he, hb, hon⟩ := Region.waitsFor_spec hr
    rw [← hon]; exact hj o' ho' e he hb
  | succ n ih =>
    intro j hr hj
    simp only [reachB, Bool.or_eq_true, List.any_eq_true, Bool.and_eq_true] at hr
    rcases hr with hr | ⟨k, _, h1, h2⟩
    · obtain ⟨o', ho', e, he, hb, hon⟩ := Region.waitsFor_spec hr
      rw [← hon]; exact hj o' ho' e he hb
    · obtain ⟨o', ho', e, he, hb, hon⟩ := Region.waitsFor_spec h1
      have hk : done.getD k false = true := by rw [← hon]; exact hj o' ho' e he hb
      exact ih k h2 (fun ok hok e he hb => h k ok hok hk e he hb)
theorem wpE_first {s i : Nat} {oi : Oper} {v : Value} (hi : ops[i]? = some oi) (hsel : ∀ (j : Nat) (o : Oper) cs b, ops[j]? = some o → o.op ≠ .select cs b)
    (hQ : ∀ c a w, Q (.panic c) (a.put oi.dst v) w → Q (.panic c) a w) (hs : ∃ m, reachB ops m s i = true) : ∀ (n : Nat) (done : Array Bool) (a : Act) (w : World), Shut_ ops done →
      (∀ j oj, ops[j]? = some oj → j ≠ i → done.getD j true = false → (∀ e ∈ oj.after, Region.binds .any e = true → e.on ≠ i) → oi.apart ops oj = true) →
      i ∈ Region.ready .any ops done → YieldsIf P ops S oi v a → S w → wpE P ops Q S s n (done.setIfInBounds i true) (a.put oi.dst v) w → wpE P ops Q S s (n + 1) done a w := by
  intro n
  induction n with
  | zero =>
    intro done a w _ _ hr hy hS H
    refine ⟨fun h => (by rw [h] at hr; cases hr), fun j hj => ?_⟩
    rcases Decidable.em (j = i) with rfl | hne
    · exact hy.wpOp hi hS ⟨.inr hS, H⟩
    · have hm := ready_mono hj hne
      rw [H.1] at hm; cases hm
  | succ n ih =>
    intro done a w hcl hfree hr hy hS H
    refine ⟨fun h => (by rw [h] at hr; cases hr), fun j hj => ?_⟩
    rcases Decidable.em (j = i) with rfl | hne
    · exact hy.wpOp hi hS ⟨.inr hS, H⟩
    · obtain ⟨hju, oj, hoj, hall⟩ := mem_ready.1 hj
      have hiu := (mem_ready.1 hr).1
      have hno : ∀ e ∈ oj.after, Region.binds .any e = true → e.on ≠ i := fun e he hb heq => by
        have h1 := hall e he hb
        rw [heq, getD_both hiu] at h1; cases h1
      have hjs : j ≠ s := fun e => by
        subst e
        obtain ⟨m, hm⟩ := hs
        have := reach_done hcl m j hm (fun o ho => by rw [hoj] at ho; cases ho; exact hall)
        rw [getD_both hiu] at this; cases this
      have hri : i ∈ Region.ready .any ops (done.setIfInBounds j true) := ready_mono hr (Ne.symm hne)
      refine wpOp_mono (fun a' w' h3 => ?_) (wpOp_putIf hoj (hfree j oj hoj hne hju hno) (fun cs b => hsel i oi cs b hi) (fun cs b => hsel j oj cs b hoj) hQ hy (H.2 j (ready_mono hj hne)))
      have hS' : S w' := h3.2.1.resolve_left hjs
      refine ⟨.inr hS', ih _ a' w' (hcl.set hj) (fun k ok hk hki hun hno' => hfree k ok hk hki ?_ hno') hri h3.1 hS' ?_⟩
      · rcases Decidable.em (j = k) with rfl | hjk
        · exact hju
        · rwa [getD_set_ne true hjk] at hun
      · rw [Array.setIfInBounds_comm _ _ hne]
        exact h3.2.2
/-- what the checks of one step come to -/
def stepB (ops : Array Oper) (done : Array Bool) (s i : Nat) : Bool := Region.noSelect ops && Region.free .any ops done i && (Region.ready .any ops done).contains i && shutB ops done && reachB ops ops.size s i
/-- number i may be taken first: it yields its value in every world of S -/
theorem wpE_take {s i : Nat} {oi : Oper} {v : Value} {n : Nat} {done : Array Bool} {a : Act} {w : World} (hi : ops[i]? = some oi) (hB : stepB ops done s i = true)
    (hQ : ∀ c a w, Q (.panic c) (a.put oi.dst v) w → Q (.panic c) a w) (hy : YieldsIf P ops S oi v a) (hS : S w)
    (h : wpE P ops Q S s n (done.setIfInBounds i true) (a.put oi.dst v) w) : wpE P ops Q S s (n + 1) done a w := by
  simp only [stepB, Bool.and_eq_true] at hB
  obtain ⟨⟨⟨⟨h1, h2⟩, h3⟩, h4⟩, h5⟩ := hB
  exact wpE_first hi (Region.noSelect_spec h1) hQ ⟨_, h5⟩ n done a w (shut_of h4) (Region.free_spec hi h2) (by simpa using h3) hy hS h
/-- number i is the only one that may come up now -/
theorem wpE_only {s i : Nat} {oi : Oper} {n : Nat} {done : Array Bool} {a : Act} {w : World} (hi : ops[i]? = some oi) (hr : Region.ready .any ops done = [i]) (hg : Region.wanted oi (yielded ops a.tmps) = true)
    (h : ∀ K : Act → World → Prop, (∀ a' w', S w' → wpE P ops Q S s n (done.setIfInBounds i true) a' w' → K a' w') → oi.wp P a w K Q) : wpE P ops Q S s (n + 1) done a w := by
  refine ⟨fun h0 => (by rw [h0] at hr; cases hr), fun j hj => ?_⟩
  rw [hr] at hj
  obtain rfl : j = i := by simpa using hj
  unfold wpOp
  simp only [hi, hg, if_true]
  exact .inl (h _ fun a' w' hs hw => ⟨.inr hs, hw⟩)
/-- .. the last one, s: S need not hold behind it -/
theorem wpE_last {s : Nat} {oi : Oper} {n : Nat} {done : Array Bool} {a : Act} {w : World} (hi : ops[s]? = some oi) (hr : Region.ready .any ops done = [s]) (hr2 : Region.ready .any ops (done.setIfInBounds s true) = []) (hg : Region.wanted oi (yielded ops a.tmps) = true)
    (h : ∀ K : Act → World → Prop, (∀ a' w', Q .normal a' w' → K a' w') → oi.wp P a w K Q) : wpE P ops Q S s (n + 1) done a w := by
  refine ⟨fun h0 => (by rw [h0] at hr; cases hr), fun j hj => ?_⟩
  rw [hr] at hj
  obtain rfl : j = s := by simpa using hj
  unfold wpOp
  simp only [hi, hg, if_true]
  refine .inl (h _ fun a' w' hq => ⟨by simp, ?_⟩)
  cases n with
  | zero => exact ⟨hr2, hq⟩
  | succ n => exact ⟨fun _ => hq, fun k hk => (by rw [hr2] at hk; cases hk)⟩
theorem wpE_region {s : Nat} {id : Nat} {a : Act} {w : World} (hm : P.follows .mixedOrders = true) (h : wpE P ops Q S s ops.size (Array.replicate ops.size false) a w.drew) : (Code.region id ops true).wp P Q a w :=
  wp_region_any hm (wpE_any _ _ _ _ h)
end
section
variable {P : Program} {a : Act} {w w' : World} {o : Oper} {v : Value}
theorem exec_load {t : TypeId} {x : Operand} (hop : o.op = .load t x) (u : Value) (hu : a.eval x = u) (h : (Instr.loadAt t u).run P w = .ok v w') : (execOp a.eval o).run P w = .ok (.value v) w' := by
  simp [execOp, hop, hu, h]
theorem exec_buildSlice1 {t : TypeId} {x : Operand} (hop : o.op = .buildSlice t 1 #[(0, x)]) (u : Value) (hu : a.eval x = u) (h : (Instr.buildSlice t 1 #[(0, u)]).run P w = .ok v w') : (execOp a.eval o).run P w = .ok (.value v) w' := by
  simp [execOp, hop, hu, h]
theorem exec_alloc {t : TypeId} (hop : o.op = .alloc t) (h : (Instr.alloc t true (.tuple #[])).run P w = .ok v w') : (execOp a.eval o).run P w = .ok (.value v) w' := by
  simp [execOp, hop, h]
theorem wp_run {K : Act → World → Prop} {Q : Exit → Act → World → Prop} (hrun : (execOp a.eval o).run P w = .ok (.value v) w') (h : K (a.put o.dst v) w') : o.wp P a w K Q := by
  unfold Oper.wp; rw [hrun]; exact h
end
theorem wpList_build1 {P : Program} {ops : Array Oper} {Q : Exit → Act → World → Prop} {a : Act} {w w' : World} {rest : List Oper} {o : Oper} {v : Value} (hg : o.guard = none) (t : TypeId) (i : Nat) (x : Operand)
    (hop : o.op = .build t #[(i, x)]) (u : Value) (hu : a.eval x = u) (hrun : (Instr.build t #[(i, u)]).run P w = .ok v w') (h : wpList P ops Q rest (a.put o.dst v) w') : wpList P ops Q (o :: rest) a w :=
  wpList_run hg (by simp [execOp, hop, hu, hrun]) h
theorem wpList_alloc {P : Program} {ops : Array Oper} {Q : Exit → Act → World → Prop} {a : Act} {w w' : World} {rest : List Oper} {o : Oper} {v : Value} (hg : o.guard = none) (t : TypeId)
    (hop : o.op = .alloc t) (hrun : (Instr.alloc t true (.tuple #[])).run P w = .ok v w') (h : wpList P ops Q rest (a.put o.dst v) w') : wpList P ops Q (o :: rest) a w :=
  wpList_run hg (by simp [execOp, hop, hrun]) h
theorem foldl_fill (l : List Value) : ∀ (i : Nat) (cs : Array Value), i + l.length = cs.size → ((l.zipIdx i).foldl (fun (cs : Array Value) (x : Value × Nat) => cs.setIfInBounds (0 + x.2) x.1) cs).toList = cs.toList.take i ++ l := by
  induction l with
  | nil => intro i cs h; simp only [List.zipIdx_nil, List.foldl_nil, List.append_nil]; rw [List.take_of_length_le (by simp at h ⊢; omega)]
  | cons x l ih =>
    intro i cs h
    simp only [List.length_cons] at h
    rw [List.zipIdx_cons, List.foldl_cons, ih (i + 1) _ (by simp; omega)]
    have hi : i < cs.toList.length := by simp; omega
    rw [Array.toList_setIfInBounds, Nat.zero_add, List.take_succ_eq_append_getElem (by simpa using hi), List.getElem_set_self, List.take_set_of_le (by omega)]
    simp
theorem fill_one (c v : Array Value) (n : Nat) (hv : v.size = n) (hc : c.size = n) : Instr.fill (fun i => some (i * n, n)) c [(0, .agg v)] = some v := by
  unfold Instr.fill
  simp only [Nat.zero_mul, Value.cells]
  rw [if_neg (by simp [hv, hc])]
  unfold Instr.fill
  congr 1
  rw [← Array.foldl_toList]
  apply Array.toList_inj.1
  have := foldl_fill v.toList 0 c (by simp [hv, hc])
  simpa using this
theorem run_buildSlice1 {P : Program} (w : World) (t e : TypeId) (ie : TypeInfo) (z : Value) (ht : P.underlying t = some (.slice e)) (hi : P.info? e = some ie) (hz : ie.zero = some z) (hsz : ie.size ≤ 16777216) (h0 : 0 < ie.size)
    (v : Array Value) (hv : v.size = ie.size) : (Instr.buildSlice t 1 #[(0, .agg v)]).run P w = .ok (.slice (some ⟨w.heap.size, 0, none⟩) 1 1) (w.alloc (.cells v e)) := by
  refine run_buildSlice w t e 1 _ v ie z ht hi hz (by omega) (by omega) ?_
  exact fill_one _ v ie.size hv (by simp)
/-- a whole block is overwritten -/
theorem Blk.setRow {w : World} {g : Nat} {t : TypeId} {cs : Array Value} (h : Blk w g t cs) (cs' : Array Value) : Blk (w.setRow g cs') g t cs' := by
  unfold Blk at h ⊢; unfold World.setRow; simp [Array.getElem?_modify, h]
theorem Upd.setRow {S : Nat → Prop} {a b : World} (h : Upd S a b) {g : Nat} (hp : S g ∨ a.heap.size ≤ g) (cs : Array Value) : Upd S a (b.setRow g cs) :=
  ⟨h.os, h.tape, h.output, by simpa [World.setRow] using h.size, fun i hi hn => by
    have hne : i ≠ g := by rintro rfl; rcases hp with hp | hp; exact hn hp; omega
    rw [← h.block i hi hn]; unfold World.setRow; simp [Array.getElem?_modify, Ne.symm hne]⟩


/-- blocks bear colours (own): one step turns only blocks of the colours C, and new ones; the colours of what was there stay -/
structure Step (C : Nat → Prop) (own : Nat → Nat) (w : World) (own' : Nat → Nat) (w' : World) : Prop where
  upd : Upd (fun b => C (own b)) w w'
  old : ∀ b, b < w.heap.size → own' b = own b
section
variable {C C' : Nat → Prop} {own own' own1 : Nat → Nat} {w w' w1 : World}
theorem Step.refl (C : Nat → Prop) (own : Nat → Nat) (w : World) : Step C own w own w := ⟨Upd.refl _ _, fun _ _ => rfl⟩
theorem Step.trans (h : Step C own w own1 w1) (k : Step C own1 w1 own' w') : Step C own w own' w' :=
  ⟨h.upd.trans' k.upd (fun i hi hc => by rwa [h.old i hi] at hc), fun b hb => (k.old b (Nat.lt_of_lt_of_le hb h.upd.size)).trans (h.old b hb)⟩
theorem Step.mono (h : Step C own w own' w') (hc : ∀ x, C x → C' x) : Step C' own w own' w' := ⟨h.upd.mono (fun _ _ hs => hc _ hs), h.old⟩
theorem Step.blk {t : TypeId} {cs : Array Value} {b d : Nat} (h : Step C own w own' w') (hb : Blk w b t cs) (ho : own b = d) (hd : ¬ C d) : Blk w' b t cs ∧ own' b = d :=
  ⟨hb.upd h.upd (by rw [ho]; exact hd), (h.old b hb.lt).trans ho⟩
theorem Step.same (h : Step C own w own' w') {b : Nat} (hb : b < w.heap.size) : own' b = own b := h.old b hb
theorem Step.of_upd {S : Nat → Prop} (h : Upd S w w') (hs : ∀ b, b < w.heap.size → S b → C (own b)) (ho : ∀ b, b < w.heap.size → own' b = own b) : Step C own w own' w' := ⟨h.mono hs, ho⟩
theorem Step.drewN (h : Step C own w own' w') (n : Nat) : Step C own w own' (w'.drewN n) := ⟨h.upd.drewN n, h.old⟩
theorem Step.drew (h : Step C own w own' w') : Step C own w own' w'.drew := ⟨h.upd.drew, h.old⟩
/-- what is new takes the colour c -/
def ext (own : Nat → Nat) (w : World) (c : Nat) : Nat → Nat := fun b => if b < w.heap.size then own b else c
theorem ext_old (own : Nat → Nat) (w : World) (c : Nat) {b : Nat} (h : b < w.heap.size) : ext own w c b = own b := if_pos h
theorem ext_new (own : Nat → Nat) (w : World) (c : Nat) {b : Nat} (h : w.heap.size ≤ b) : ext own w c b = c := if_neg (by omega)
end

end Go.Proofs.Ytjhibbhinbdciaa
