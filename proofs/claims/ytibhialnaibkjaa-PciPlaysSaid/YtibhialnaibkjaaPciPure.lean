import Derived.Test.YtibhialnaibkjaaBase
namespace Go.Proofs.Ytibhialnaibkjaa
set_option linter.unusedVariables false
open Go.RowKit

/-- which bits of a byte may be written -/
def maskZ (o : Int) : Int := if o = 4 then 6 else if o = 17 then 240 else if o = 18 ∨ o = 19 ∨ o = 60 then 255 else 0
/-- an offset and a size that may be -/
def fitsZ (off size : Int) : Bool := (size == 1 || size == 2 || size == 4) && decide (off < 256) && (off % size == 0)
theorem fitsZ_iff {off size : Int} : fitsZ off size = true ↔ (size = 1 ∨ size = 2 ∨ size = 4) ∧ off < 256 ∧ off % size = 0 := by
  simp [fitsZ, and_assoc, or_assoc]
theorem fitsZ_room {off size : Int} (h0 : 0 ≤ off) (h : fitsZ off size = true) : 0 ≤ size ∧ size ≤ 4 ∧ off + size ≤ 256 := by
  rcases fitsZ_iff.1 h with ⟨rfl | rfl | rfl, h1, h2⟩ <;> omega

/-- a slot: what is written of it, and the rest by the table -/
structure Sl where
  kind : Int
  cmd : Int
  base : Int
  line : Int
def Sl.wf (s : Sl) : Prop := (0 ≤ s.kind ∧ s.kind < 256) ∧ (s.cmd = 0 ∨ s.cmd = 2 ∨ s.cmd = 4 ∨ s.cmd = 6) ∧ (0 ≤ s.base ∧ s.base < 4294967296 ∧ s.base % 4096 = 0) ∧ (0 ≤ s.line ∧ s.line < 256)
def zf : Nat → Int := fun _ => 0
theorem zf_bd : ∀ i, 0 ≤ zf i ∧ zf i < 256 := fun _ => by simp [zf]
def devF (s : Sl) : Nat → Int :=
  put (put (put (put (put (put (put (put (put (put (put (put (put zf 0 2 6900) 2 2 (4160 + s.kind)) 4 2 s.cmd) 6 2 16) 8 4 4278190081) 16 4 s.base) 44 2 6900) 46 2 s.kind) 52 1 64) 60 1 s.line) 61 1 1) 64 4 17846281) 80 4 34603017
theorem devF_bd (s : Sl) : ∀ i, 0 ≤ devF s i ∧ devF s i < 256 := by
  unfold devF; repeat (first | exact zf_bd | apply put_bd)

theorem put_far {f : Nat → Int} {o n : Nat} {v : Int} {j : Nat} (h : j < o ∨ o + n ≤ j) : put f o n v j = f j := by unfold put; rw [if_neg (by omega)]
theorem put_in {f : Nat → Int} {o n : Nat} {v : Int} {j : Nat} (h : o ≤ j ∧ j < o + n) : put f o n v j = byteOf v (j - o) := by unfold put; rw [if_pos h]
theorem put_comm {f : Nat → Int} {o n o' n' : Nat} {v v' : Int} (h : o + n ≤ o' ∨ o' + n' ≤ o) : put (put f o n v) o' n' v' = put (put f o' n' v') o n v := by
  funext j; unfold put
  by_cases h1 : o ≤ j ∧ j < o + n
  · rw [if_neg (by omega), if_pos h1, if_pos h1]
  · rw [if_neg h1, if_neg h1]
theorem put_nil (o n : Nat) : put zf o n 0 = zf := by
  funext j; unfold put byteOf zf; split <;> simp

theorem devF_cmd (s : Sl) : devF s 4 = s.cmd % 256 := by
  unfold devF; repeat rw [put_far (by omega)]
  rw [put_in (by omega)]; exact byteOf_zero _
theorem devF_cmd1 (s : Sl) (h : s.wf) : devF s 5 = 0 := by
  unfold devF; repeat rw [put_far (by omega)]
  rw [put_in (by omega)]; obtain ⟨_, h, _⟩ := h; show byteOf _ 1 = 0; rw [byteOf_succ, byteOf_zero]; omega
theorem devF_base (s : Sl) (k : Nat) (hk : k < 4) : devF s (16 + k) = byteOf s.base k := by
  unfold devF; repeat rw [put_far (by omega)]
  rw [put_in (by omega), Nat.add_sub_cancel_left]
theorem devF_line (s : Sl) : devF s 60 = s.line % 256 := by
  unfold devF; repeat rw [put_far (by omega)]
  rw [put_in (by omega)]; exact byteOf_zero _
theorem devF_far (s s' : Sl) (hk : s.kind = s'.kind) (j : Nat) (h1 : j ≠ 4) (h2 : j ≠ 5) (h3 : j < 16 ∨ 20 ≤ j) (h4 : j ≠ 60) : devF s j = devF s' j := by
  have e : ∀ t : Sl, devF t j = put (put (put (put (put (put (put (put (put (put zf 0 2 6900) 2 2 (4160 + t.kind)) 6 2 16) 8 4 4278190081) 44 2 6900) 46 2 t.kind) 52 1 64) 61 1 1) 64 4 17846281) 80 4 34603017 j := by
    intro t
    unfold devF
    rw [put_comm (o := 4) (o' := 6) (by omega), put_comm (o := 4) (o' := 8) (by omega), put_comm (o := 16) (o' := 44) (by omega), put_comm (o := 16) (o' := 46) (by omega), put_comm (o := 16) (o' := 52) (by omega),
      put_comm (o := 60) (o' := 61) (by omega), put_comm (o := 60) (o' := 64) (by omega), put_comm (o := 60) (o' := 80) (by omega), put_far (o := 60) (by omega),
      put_comm (o := 16) (o' := 61) (by omega), put_comm (o := 16) (o' := 64) (by omega), put_comm (o := 16) (o' := 80) (by omega), put_far (o := 16) (by omega),
      put_comm (o := 4) (o' := 44) (by omega), put_comm (o := 4) (o' := 46) (by omega), put_comm (o := 4) (o' := 52) (by omega), put_comm (o := 4) (o' := 61) (by omega), put_comm (o := 4) (o' := 64) (by omega), put_comm (o := 4) (o' := 80) (by omega), put_far (o := 4) (by omega)]
  rw [e, e, hk]

/-- a new slot -/
def fresh (k : Int) : Sl := ⟨k, 0, 0, 0⟩
theorem fresh_wf {k : Int} (h : 0 ≤ k ∧ k ≤ 255) : (fresh k).wf := ⟨⟨h.1, by simp only [fresh]; omega⟩, .inl rfl, by simp [fresh], by simp [fresh]⟩
theorem put_same {f : Nat → Int} {o n : Nat} (h : ∀ j, o ≤ j → j < o + n → f j = 0) : put f o n 0 = f := by
  funext j; unfold put byteOf; split
  · rename_i hj; rw [h j hj.1 hj.2]; simp
  · rfl
theorem devF_fresh (k : Int) : devF (fresh k) = put (put (put (put (put (put (put (put (put (put zf 0 2 6900) 2 2 (4160 + k)) 6 2 16) 8 4 4278190081) 44 2 6900) 46 2 k) 52 1 64) 61 1 1) 64 4 17846281) 80 4 34603017 := by
  unfold devF fresh
  simp only []
  rw [put_same (o := 4) (fun j h1 h2 => by repeat rw [put_far (by omega)]
                                           rfl), put_same (o := 16) (fun j h1 h2 => by repeat rw [put_far (by omega)]
                                                                                       rfl), put_same (o := 60) (fun j h1 h2 => by repeat rw [put_far (by omega)]
                                                                                                                                   rfl)]

/-- what becomes of a byte that is written -/
def mixZ (old b m : Int) : Int := bits .or .u8 (bits .andNot .u8 old m) (bits .and .u8 b m)
theorem nat_and255 (a : Nat) (h : a < 256) : a &&& 255 = a := (by decide +kernel : ∀ a : Fin 256, a.1 &&& 255 = a.1) ⟨a, h⟩
theorem nat_and15 (a : Nat) (h : a < 256) : a &&& 15 = a % 16 := (by decide +kernel : ∀ a : Fin 256, a.1 &&& 15 = a.1 % 16) ⟨a, h⟩
theorem nat_and240 (a : Nat) (h : a < 256) : a &&& 240 = a / 16 * 16 := (by decide +kernel : ∀ a : Fin 256, a.1 &&& 240 = a.1 / 16 * 16) ⟨a, h⟩
theorem nat_and6 (a : Nat) (h : a < 256) : a &&& 6 = a % 8 / 2 * 2 := (by decide +kernel : ∀ a : Fin 256, a.1 &&& 6 = a.1 % 8 / 2 * 2) ⟨a, h⟩
theorem nat_and249 (a : Nat) (h : a = 0 ∨ a = 2 ∨ a = 4 ∨ a = 6) : a &&& 249 = 0 := by rcases h with rfl | rfl | rfl | rfl <;> decide
theorem mixZ_nat (a b m : Nat) (ha : a < 256) (hb : b < 256) (hm : m < 256) : mixZ (a : Int) b m = (((a &&& (255 - m)) ||| (b &&& m) : Nat) : Int) := by
  unfold mixZ
  rw [u8_andNot_nat a m ha hm, u8_and_nat b m hb hm, u8_or_nat _ _ (Nat.lt_of_le_of_lt Nat.and_le_left ha) (Nat.lt_of_le_of_lt Nat.and_le_left hb)]
section
variable {old b : Int} (h0 : 0 ≤ old) (h1 : old < 256) (h2 : 0 ≤ b) (h3 : b < 256)
include h0 h1 h2 h3
theorem mixZ_0 : mixZ old b 0 = old := by
  obtain ⟨a, rfl⟩ := Int.eq_ofNat_of_zero_le h0
  obtain ⟨b, rfl⟩ := Int.eq_ofNat_of_zero_le h2
  have := mixZ_nat a b 0 (by omega) (by omega) (by omega)
  rw [show ((0 : Nat) : Int) = 0 from rfl] at this
  rw [this, nat_and255 a (by omega), Nat.and_zero, Nat.or_zero]
theorem mixZ_255 : mixZ old b 255 = b := by
  obtain ⟨a, rfl⟩ := Int.eq_ofNat_of_zero_le h0
  obtain ⟨b, rfl⟩ := Int.eq_ofNat_of_zero_le h2
  have := mixZ_nat a b 255 (by omega) (by omega) (by omega)
  rw [show ((255 : Nat) : Int) = 255 from rfl] at this
  rw [this, nat_and255 b (by omega), Nat.sub_self, Nat.and_zero, Nat.zero_or]
theorem mixZ_240 (h : old % 16 = 0) : mixZ old b 240 = b / 16 * 16 := by
  obtain ⟨a, rfl⟩ := Int.eq_ofNat_of_zero_le h0
  obtain ⟨b, rfl⟩ := Int.eq_ofNat_of_zero_le h2
  have := mixZ_nat a b 240 (by omega) (by omega) (by omega)
  rw [show ((240 : Nat) : Int) = 240 from rfl] at this
  rw [this, nat_and240 b (by omega), show 255 - 240 = 15 from rfl, nat_and15 a (by omega), show a % 16 = 0 from by omega, Nat.zero_or]
  omega
theorem mixZ_6 (h : old = 0 ∨ old = 2 ∨ old = 4 ∨ old = 6) : mixZ old b 6 = b % 8 / 2 * 2 := by
  obtain ⟨a, rfl⟩ := Int.eq_ofNat_of_zero_le h0
  obtain ⟨b, rfl⟩ := Int.eq_ofNat_of_zero_le h2
  have := mixZ_nat a b 6 (by omega) (by omega) (by omega)
  rw [show ((6 : Nat) : Int) = 6 from rfl] at this
  rw [this, nat_and6 b (by omega), show 255 - 6 = 249 from rfl, nat_and249 a (by omega), Nat.zero_or]
  omega
end

/-- the bytes behind a write -/
def wrF (f : Nat → Int) (off size : Nat) (v : Int) : Nat → Int := fun j => if off ≤ j ∧ j < off + size then mixZ (f j) (byteOf v (j - off)) (maskZ j) else f j
theorem wrF_zero (f : Nat → Int) (off : Nat) (v : Int) : wrF f off 0 v = f := by
  funext j; unfold wrF; rw [if_neg (by omega)]
theorem wrF_at (f : Nat → Int) (off k : Nat) (v : Int) : wrF f off k v (off + k) = f (off + k) := by unfold wrF; rw [if_neg (by omega)]
theorem wrF_succ (f : Nat → Int) (off k : Nat) (v : Int) (i : Nat) : wrF f off (k + 1) v i = if i = off + k then mixZ (f i) (byteOf v k) (maskZ i) else wrF f off k v i := by
  unfold wrF
  by_cases h : i = off + k
  · subst h; rw [if_pos (by omega), if_pos rfl, Nat.add_sub_cancel_left]
  · rw [if_neg h]
    by_cases h2 : off ≤ i ∧ i < off + k
    · rw [if_pos (by omega), if_pos h2]
    · rw [if_neg (by omega), if_neg h2]
/-- the slot behind a write -/
def wrS (s : Sl) (off size : Nat) (v : Int) : Sl :=
  { kind := s.kind, cmd := num (put (devF s) off size v) 4 2 % 8 / 2 * 2, base := num (put (devF s) off size v) 16 4 / 4096 * 4096, line := num (put (devF s) off size v) 60 1 }
theorem num1 (f : Nat → Int) (o : Nat) : num f o 1 = f o := by simp [num]
theorem num2 (f : Nat → Int) (o : Nat) : num f o 2 = f o + 256 * f (o + 1) := by simp [num]
theorem num4 (f : Nat → Int) (o : Nat) : num f o 4 = f o + 256 * f (o + 1) + 65536 * f (o + 2) + 16777216 * f (o + 3) := by simp only [num, Nat.add_assoc, Nat.reduceAdd]; omega
theorem num16 (f : Nat → Int) : num f 16 4 = f 16 + 256 * f 17 + 65536 * f 18 + 16777216 * f 19 := num4 f 16
theorem wrS_wf {s : Sl} (h : s.wf) (off size : Nat) (v : Int) : (wrS s off size v).wf := by
  have hb := put_bd (devF_bd s) off size v
  refine ⟨h.1, ?_, ?_, ?_⟩ <;> simp only [wrS]
  · rw [num2]; have := hb 4; have := hb 5; omega
  · rw [num16]; have := hb 16; have := hb 17; have := hb 18; have := hb 19; omega
  · rw [num1]; exact hb 60
theorem num_cmd {s : Sl} (h : s.wf) : num (devF s) 4 2 = s.cmd := by
  rw [num2, devF_cmd, devF_cmd1 s h]; have := h.2.1; omega
theorem num_base {s : Sl} (h : s.wf) : num (devF s) 16 4 = s.base := by
  rw [num_bytes 4 s.base 16 _ (fun k hk => devF_base s k hk)]
  obtain ⟨_, _, ⟨x, y, _⟩, _⟩ := h
  rw [show (256 : Int) ^ 4 = 4294967296 from rfl]; omega
theorem num_line {s : Sl} (h : s.wf) : num (devF s) 60 1 = s.line := by
  rw [num1, devF_line]; have := h.2.2.2; omega
theorem wrS_base_eq {s : Sl} (h : s.wf) (v : Int) : wrS s 16 4 v = { s with base := v % 4294967296 / 4096 * 4096 } := by
  unfold wrS
  rw [num_put_far _ _ _ _ _ _ (by omega), num_put, num_put_far _ _ _ _ _ _ (by omega), num_cmd h, num_line h]
  congr 1
  have := h.2.1; omega
theorem wrS_cmd_eq {s : Sl} (h : s.wf) (v : Int) : wrS s 4 2 v = { s with cmd := v % 65536 % 8 / 2 * 2 } := by
  unfold wrS
  rw [num_put, num_put_far _ _ _ _ _ _ (by omega), num_put_far _ _ _ _ _ _ (by omega), num_base h, num_line h]
  obtain ⟨kd, cmd, base, line⟩ := s
  have := h.2.2.1.2.2
  simp only at this ⊢
  congr 1
  omega
theorem byteOf1 (v : Int) : byteOf v 1 = v / 256 % 256 := by simp [byteOf]
theorem byteOf2 (v : Int) : byteOf v 2 = v / 65536 % 256 := by simp [byteOf]
theorem byteOf3 (v : Int) : byteOf v 3 = v / 16777216 % 256 := by simp [byteOf]
theorem wrF_devF {s : Sl} (h : s.wf) (off size : Nat) (v : Int) : wrF (devF s) off size v = devF (wrS s off size v) := by
  have hw := wrS_wf h off size v
  have hb := put_bd (devF_bd s) off size v
  obtain ⟨_, hc, ⟨hb0, hb1, hb2⟩, hl0, hl1⟩ := id h
  have key : ∀ j, wrF (devF s) off size v j = if off ≤ j ∧ j < off + size then mixZ (devF s j) (put (devF s) off size v j) (maskZ j) else put (devF s) off size v j := by
    intro j; unfold wrF put
    by_cases hr : off ≤ j ∧ j < off + size
    · rw [if_pos hr, if_pos hr, if_pos hr]
    · rw [if_neg hr, if_neg hr, if_neg hr]
  have far : ∀ j, ¬ (off ≤ j ∧ j < off + size) → put (devF s) off size v j = devF s j := fun j hj => put_far (by omega)
  funext j
  rw [key]
  have hd := devF_bd s j
  have hbj := hb j
  by_cases e4 : j = 4
  · subst e4
    have far4 := fun hr => far 4 hr
    rw [devF_cmd s] at far4
    rw [devF_cmd (wrS s off size v)]
    have e : (wrS s off size v).cmd % 256 = put (devF s) off size v 4 % 8 / 2 * 2 := by
      simp only [wrS]; rw [num2]; have := hb 4; have := hb 5; omega
    rw [e]
    clear e
    by_cases hr : off ≤ 4 ∧ 4 < off + size
    · rw [if_pos hr]; exact mixZ_6 hd.1 hd.2 hbj.1 hbj.2 (by rw [devF_cmd s]; omega)
    · rw [if_neg hr, far4 hr]; omega
  by_cases e5 : j = 5
  · subst e5
    rw [devF_cmd1 (wrS s off size v) hw]
    by_cases hr : off ≤ 5 ∧ 5 < off + size
    · rw [if_pos hr, show maskZ ((5 : Nat) : Int) = 0 from rfl, mixZ_0 hd.1 hd.2 hbj.1 hbj.2, devF_cmd1 _ h]
    · rw [if_neg hr, far 5 hr, devF_cmd1 _ h]
  by_cases e16 : j = 16
  · subst e16
    have e0 : ∀ t : Sl, t.wf → devF t 16 = 0 := fun t ht => by
      have := devF_base t 0 (by omega); rw [byteOf_zero] at this; obtain ⟨_, _, ⟨_, _, hx⟩, _⟩ := ht; rw [Nat.add_zero] at this; omega
    rw [e0 (wrS s off size v) hw]
    by_cases hr : off ≤ 16 ∧ 16 < off + size
    · rw [if_pos hr, show maskZ ((16 : Nat) : Int) = 0 from rfl, mixZ_0 hd.1 hd.2 hbj.1 hbj.2, e0 _ h]
    · rw [if_neg hr, far 16 hr, e0 _ h]
  have b0 := hb 16; have b1 := hb 17; have b2 := hb 18; have b3 := hb 19
  by_cases e17 : j = 17
  · subst e17
    have e0 : ∀ t : Sl, devF t 17 = t.base / 256 % 256 := fun t => by have := devF_base t 1 (by omega); rwa [byteOf1] at this
    have e1 : (wrS s off size v).base / 256 % 256 = put (devF s) off size v 17 / 16 * 16 := by
      simp only [wrS]; rw [num16]; omega
    rw [e0 (wrS s off size v), e1]
    by_cases hr : off ≤ 17 ∧ 17 < off + size
    · rw [if_pos hr]; exact mixZ_240 hd.1 hd.2 hbj.1 hbj.2 (by rw [e0]; omega)
    · rw [if_neg hr, far 17 hr, e0]; omega
  by_cases e18 : j = 18
  · subst e18
    have e0 : ∀ t : Sl, devF t 18 = t.base / 65536 % 256 := fun t => by have := devF_base t 2 (by omega); rwa [byteOf2] at this
    have e1 : (wrS s off size v).base / 65536 % 256 = put (devF s) off size v 18 := by
      simp only [wrS]; rw [num16]; omega
    rw [e0 (wrS s off size v), e1]
    by_cases hr : off ≤ 18 ∧ 18 < off + size
    · rw [if_pos hr]; exact mixZ_255 hd.1 hd.2 hbj.1 hbj.2
    · rw [if_neg hr]
  by_cases e19 : j = 19
  · subst e19
    have e0 : ∀ t : Sl, devF t 19 = t.base / 16777216 % 256 := fun t => by have := devF_base t 3 (by omega); rwa [byteOf3] at this
    have e1 : (wrS s off size v).base / 16777216 % 256 = put (devF s) off size v 19 := by
      simp only [wrS]; rw [num16]; omega
    rw [e0 (wrS s off size v), e1]
    by_cases hr : off ≤ 19 ∧ 19 < off + size
    · rw [if_pos hr]; exact mixZ_255 hd.1 hd.2 hbj.1 hbj.2
    · rw [if_neg hr]
  by_cases e60 : j = 60
  · subst e60
    rw [devF_line (wrS s off size v)]
    have e1 : (wrS s off size v).line % 256 = put (devF s) off size v 60 := by simp only [wrS]; rw [num1]; omega
    rw [e1]
    by_cases hr : off ≤ 60 ∧ 60 < off + size
    · rw [if_pos hr]; exact mixZ_255 hd.1 hd.2 hbj.1 hbj.2
    · rw [if_neg hr]
  · rw [devF_far (wrS s off size v) s rfl j e4 e5 (by omega) e60]
    have hm : maskZ (j : Int) = 0 := by unfold maskZ; rw [if_neg (by omega), if_neg (by omega), if_neg (by omega)]
    by_cases hr : off ≤ j ∧ j < off + size
    · rw [if_pos hr, hm, mixZ_0 hd.1 hd.2 hbj.1 hbj.2]
    · rw [if_neg hr, far j hr]
end Go.Proofs.Ytibhialnaibkjaa
