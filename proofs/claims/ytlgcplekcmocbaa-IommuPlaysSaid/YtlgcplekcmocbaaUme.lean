import Derived.Test.YtlgcplekcmocbaaTref
import Derived.Laws.StructEq
import Derived.Test.YtlgcplekcmocbaaUmd
import Derived.Test.YtlgcplekcmocbaaUmg
import Derived.Test.YtlgcplekcmocbaaIoN
import Derived.Test.YtlgcplekcmocbaaMref5
import Derived.Test.YtlgcplekcmocbaaIo8
/- citadellaw00: SameTrans of lists that are the same. -/
namespace Go.Proofs.Ytlgcplekcmocbaa
set_option linter.unusedVariables false
set_option linter.unusedSimpArgs false
open Go.RowKit
set_option maxRecDepth 100000

theorem Reads.beg {w : World} {B size n : Nat} {A : Option Addr} {xs : List Value} (h : Reads w B size A n xs) (hn : 0 < n) (hs : 0 < size) : ∃ b o, A = some ⟨b, o, none⟩ ∧ b < B ∧ ∀ j u, xs[j]? = some u → w.cell? ⟨b, o + j, none⟩ = some u := by
  obtain ⟨ad, rfl, hb, hc⟩ := h.2 hn
  have hl : 0 < xs.length := by rw [h.1]; exact Nat.mul_pos hn hs
  have h0 := hc 0 _ (List.getElem?_eq_getElem hl)
  obtain ⟨b, o, sp⟩ := ad
  cases sp with
  | some k =>
    simp only [Addr.add, if_true] at h0
    unfold World.cell? at h0
    split at h0 <;> simp at h0
  | none =>
    refine ⟨b, o, rfl, hb, fun j u hu => ?_⟩
    have := hc j u hu
    rwa [Addr.add_lit] at this
theorem trans_eq (a b c d : Int) (w : World) : (Op.equalIn 10000 115 (.agg #[.int .i64 a, .int .u64 b, .int .u64 c, .int .i64 d]) (.agg #[.int .i64 a, .int .u64 b, .int .u64 c, .int .i64 d])).run Try.prog w = .ok true w := by
  have u3 := Try.underlying3
  have u30 := Try.underlying22
  have hS : Try.prog.underlying 115 = some (.struct (Try.prog.fieldsOf 115)) := by kernel_rfl
  have hp : Try.prog.stoodInHeld 115 = false := by kernel_rfl
  rw [show (10000 : Nat) = 9999 + 1 from rfl, run_equalIn_agg w 9999 115 _ _ hS hp]
  simp only [Program.fieldsOf, Try.underlying115]
  go_simp
set_option maxHeartbeats 1000000 in
theorem same_trans {w : World} {A B : Option Addr} {a b ca cb : Nat} {l : List Tr} (hl : l.length ≤ 1024) (h1 : Reads w a 4 A l.length (trsC l)) (h2 : Reads w b 4 B l.length (trsC l)) :
    Calls Try.prog 30 #[.slice A l.length ca, .slice B l.length cb] w fun e w' => e = .returned (.bool true) ∧ ∃ k, w' = w.drewN k := by
  have H := Lib.hid (And.intro h1 h2)
  clear h1 h2
  go_enter Try.func30, Try.ntmps30
  go_wp2
  go_loopw [5] (fun i wr => ∃ (k : Nat), k ≤ l.length ∧ i = .int .i64 (k : Int) ∧ ∃ q, wr = w.drewN q) (fun i _ => l.length - (intOf i).toNat)
  case atStart => exact ⟨0, by omega, rfl, 0, rfl⟩
  case round =>
    obtain ⟨k, hk, rfl, q, rfl⟩ := hrel
    by_cases hlt : k < l.length
    · obtain ⟨b1, o1, rfl, _, hc1⟩ := H.out.1.beg (by omega) (by omega)
      obtain ⟨b2, o2, rfl, _, hc2⟩ := H.out.2.beg (by omega) (by omega)
      obtain ⟨q0, q1, q2, q3⟩ := trsC_at l k _ (List.getElem?_eq_getElem hlt)
      have x0 : w.cell? ⟨b1, o1 + k * 4, none⟩ = _ := hc1 _ _ q0
      have x1 : w.cell? ⟨b1, o1 + (k * 4 + 1), none⟩ = _ := hc1 _ _ q1
      have x2 : w.cell? ⟨b1, o1 + (k * 4 + 2), none⟩ = _ := hc1 _ _ q2
      have x3 : w.cell? ⟨b1, o1 + (k * 4 + 3), none⟩ = _ := hc1 _ _ q3
      have y0 : w.cell? ⟨b2, o2 + k * 4, none⟩ = _ := hc2 _ _ q0
      have y1 : w.cell? ⟨b2, o2 + (k * 4 + 1), none⟩ = _ := hc2 _ _ q1
      have y2 : w.cell? ⟨b2, o2 + (k * 4 + 2), none⟩ = _ := hc2 _ _ q2
      have y3 : w.cell? ⟨b2, o2 + (k * 4 + 3), none⟩ = _ := hc2 _ _ q3
      simp only [← Nat.add_assoc] at x1 x2 x3 y1 y2 y3
      have hlt' : (k : Int) < (l.length : Int) := by omega
      generalize l[k] = x at *
      have te := trans_eq x.v x.p x.f x.r
      clear hc1 hc2 q0 q1 q2 q3
      go_wp2_with fail
      refine wpE_region (S := fun (W' : World) => W' = (w.drewN q).drew) (s := 8) (by kernel_rfl) ?_
      have hS : (fun (W' : World) => W' = (w.drewN q).drew) _ := rfl
      refine wpE_take (i := 0) (oi := { dst := some 17, op := Go.Op.move (Go.Operand.tmp 0), type := 64, pos := "law.go:64", after := #[], guard := none }) (v := ?_) rfl (by kernel_rfl) (fun _ _ _ h => h) (Or.inl ⟨by rfl, fun W hW => ?_⟩) hS ?_
      rotate_left
      · (obtain rfl : W = (w.drewN q).drew := hW); go_simp; (try go_bits); (try rw [if_pos (by omega)]); (try with_reducible rfl)
      (try simp only [Act.put, List.setIfInBounds_toArray, List.set_cons_succ, List.set_cons_zero])
      refine wpE_take (i := 1) (oi := { dst := some 18, op := Go.Op.move (Go.Operand.tmp 5), type := 3, pos := "law.go:64", after := #[], guard := none }) (v := ?_) rfl (by kernel_rfl) (fun _ _ _ h => h) (Or.inl ⟨by rfl, fun W hW => ?_⟩) hS ?_
      rotate_left
      · (obtain rfl : W = (w.drewN q).drew := hW); go_simp; (try go_bits); (try rw [if_pos (by omega)]); (try with_reducible rfl)
      (try simp only [Act.put, List.setIfInBounds_toArray, List.set_cons_succ, List.set_cons_zero])
      refine wpE_take (i := 2) (oi := { dst := some 19, op := Go.Op.indexAddr 64 (Go.Operand.tmp 17) (Go.Operand.tmp 18), type := 0, pos := "law.go:64", after := #[{ on := 0, ground := Go.Ground.data }, { on := 1, ground := Go.Ground.data }], guard := none }) (v := ?_) rfl (by kernel_rfl) (fun _ _ _ h => h) (Or.inl ⟨by rfl, fun W hW => ?_⟩) hS ?_
      rotate_left
      · (obtain rfl : W = (w.drewN q).drew := hW); go_simp; (try go_bits); (try rw [if_pos (by omega)]); (try with_reducible rfl)
      (try simp only [Act.put, List.setIfInBounds_toArray, List.set_cons_succ, List.set_cons_zero])
      refine wpE_take (i := 3) (oi := { dst := some 20, op := Go.Op.load 115 (Go.Operand.tmp 19), type := 115, pos := "law.go:64", after := #[{ on := 2, ground := Go.Ground.data }], guard := none }) (v := ?_) rfl (by kernel_rfl) (fun _ _ _ h => h) (Or.inl ⟨by rfl, fun W hW => ?_⟩) hS ?_
      rotate_left
      · (obtain rfl : W = (w.drewN q).drew := hW); go_simp; (try go_bits); (try rw [if_pos (by omega)]); (try with_reducible rfl)
      (try simp only [Act.put, List.setIfInBounds_toArray, List.set_cons_succ, List.set_cons_zero])
      refine wpE_take (i := 4) (oi := { dst := some 21, op := Go.Op.move (Go.Operand.tmp 1), type := 64, pos := "law.go:64", after := #[], guard := none }) (v := ?_) rfl (by kernel_rfl) (fun _ _ _ h => h) (Or.inl ⟨by rfl, fun W hW => ?_⟩) hS ?_
      rotate_left
      · (obtain rfl : W = (w.drewN q).drew := hW); go_simp; (try go_bits); (try rw [if_pos (by omega)]); (try with_reducible rfl)
      (try simp only [Act.put, List.setIfInBounds_toArray, List.set_cons_succ, List.set_cons_zero])
      refine wpE_take (i := 5) (oi := { dst := some 22, op := Go.Op.move (Go.Operand.tmp 5), type := 3, pos := "law.go:64", after := #[], guard := none }) (v := ?_) rfl (by kernel_rfl) (fun _ _ _ h => h) (Or.inl ⟨by rfl, fun W hW => ?_⟩) hS ?_
      rotate_left
      · (obtain rfl : W = (w.drewN q).drew := hW); go_simp; (try go_bits); (try rw [if_pos (by omega)]); (try with_reducible rfl)
      (try simp only [Act.put, List.setIfInBounds_toArray, List.set_cons_succ, List.set_cons_zero])
      refine wpE_take (i := 6) (oi := { dst := some 23, op := Go.Op.indexAddr 64 (Go.Operand.tmp 21) (Go.Operand.tmp 22), type := 0, pos := "law.go:64", after := #[{ on := 4, ground := Go.Ground.data }, { on := 5, ground := Go.Ground.data }], guard := none }) (v := ?_) rfl (by kernel_rfl) (fun _ _ _ h => h) (Or.inl ⟨by rfl, fun W hW => ?_⟩) hS ?_
      rotate_left
      · (obtain rfl : W = (w.drewN q).drew := hW); go_simp; (try go_bits); (try rw [if_pos (by omega)]); (try with_reducible rfl)
      (try simp only [Act.put, List.setIfInBounds_toArray, List.set_cons_succ, List.set_cons_zero])
      refine wpE_take (i := 7) (oi := { dst := some 24, op := Go.Op.load 115 (Go.Operand.tmp 23), type := 115, pos := "law.go:64", after := #[{ on := 6, ground := Go.Ground.data }], guard := none }) (v := ?_) rfl (by kernel_rfl) (fun _ _ _ h => h) (Or.inl ⟨by rfl, fun W hW => ?_⟩) hS ?_
      rotate_left
      · (obtain rfl : W = (w.drewN q).drew := hW); go_simp; (try go_bits); (try rw [if_pos (by omega)]); (try with_reducible rfl)
      (try simp only [Act.put, List.setIfInBounds_toArray, List.set_cons_succ, List.set_cons_zero])
      refine wpE_last (oi := { dst := some 25, op := Go.Op.binOp Go.BinOp.neq 115 (Go.Operand.tmp 20) (Go.Operand.tmp 24) 115, type := 4, pos := "law.go:64", after := #[{ on := 3, ground := Go.Ground.data }, { on := 7, ground := Go.Ground.data }], guard := none }) rfl (by kernel_rfl) (by kernel_rfl) (by rfl) (fun K hK => ?_)
      go_simp; (try go_bits); refine hK _ _ ?_; clear hK K
      go_wp2
      exact ⟨⟨k + 1, by omega, by go_num, q + 1, rfl⟩, by simp [intOf]; omega⟩
    · obtain rfl : k = l.length := by omega
      go_wp2
      go_ret
      exact ⟨rfl, q, rfl⟩
end Go.Proofs.Ytlgcplekcmocbaa

/- IommuPlays: any call of a script; a refused room. -/
namespace Go.Proofs.Ytlgcplekcmocbaa
set_option linter.unusedVariables false
set_option linter.unusedSimpArgs false
open Go.RowKit
set_option maxRecDepth 100000

section
variable {own : Nat → Nat} {w : World} {p q rp tp p2 t2 r : Nat} {s : Us} {m : Nat → Int} {l : List Tr} {ms : List To4} {xk xd xs xg xq : Int} {xa xv : Nat} {xw : Bool}
theorem do_any (hA : PA own w p rp tp r s m l) (hD : PD own w q p2 t2 r s m l ms) (hI : PI s l ms) (hms : ms.length < 4398046511103) (hbk : i64B xk) (hbs : i64B xs) (hba : xa < 18446744073709551616) (hbv : xv < 18446744073709551616) :
    Calls Try.prog 29 #[.agg #[.pointer (some ⟨p, 0, none⟩), .pointer (some ⟨q, 0, none⟩), .pointer (some ⟨rp, 0, none⟩), .pointer (some ⟨p2, 0, none⟩)], .agg #[.int .i64 xk, .int .i64 xd, .int .i64 xs, .int .u64 (xa : Int), .int .u64 (xv : Int), .bool xw, .int .i64 xg, .int .i64 xq]] w fun e w' => e = .returned (.bool true) ∧ ∃ own' s' m' l' ms', Step (fun x => x ≠ 0 ∧ x < 50) own w own' w' ∧ PA own' w' p rp tp r s' m' l' ∧ PD own' w' q p2 t2 r s' m' l' ms' ∧ PI s' l' ms' ∧ ms'.length ≤ ms.length + 1 := by
  rcases (show xk % 11 = 0 ∨ xk % 11 = 1 ∨ xk % 11 = 2 ∨ xk % 11 = 3 ∨ xk % 11 = 4 ∨ xk % 11 = 5 ∨ xk % 11 = 6 ∨ xk % 11 = 7 ∨ xk % 11 = 8 ∨ xk % 11 = 9 ∨ xk % 11 = 10 by omega) with h | h | h | h | h | h | h | h | h | h | h
  · exact do_0 hA hD hI hms hbk hbs hba hbv h
  · exact do_1 hA hD hI hms hbk hbs hba hbv h
  · exact do_2 hA hD hI hms hbk hbs hba hbv h
  · exact do_3 hA hD hI hms hbk hbs hba hbv h
  · exact do_4 hA hD hI hms hbk hbs hba hbv h
  · exact do_5 hA hD hI hms hbk hbs hba hbv h
  · exact do_6 hA hD hI hms hbk hbs hba hbv h
  · exact do_7 hA hD hI hms hbk hbs hba hbv h
  · exact do_8 hA hD hI hms hbk hbs hba hbv h
  · exact do_9 hA hD hI hms hbk hbs hba hbv h
  · exact do_10 hA hD hI hms hbk hbs hba hbv h
end
theorem io_New_bad (rp : Nat) (w : World) (room : Int) (h : room < 1 ∨ 64 < room) :
    Calls Try.prog 33 #[.pointer (some ⟨rp, 0, none⟩), .int .i64 room] w fun e w' => e = .returned (.tuple #[.pointer none, .int .i64 1]) ∧ w = w' := by
  have HT := Lib.hid (tlb_New_bad w room h)
  clear h
  go_enter Try.func33, Try.ntmps33
  go_wp2_with fail
  ((with_reducible refine HT.out.mono ?_); rintro e w1 ⟨rfl, rfl⟩)
  clear HT
  go_wp2
  go_ret2
  exact ⟨rfl, rfl⟩
theorem uref_New_bad (p2 : Nat) (w : World) (room : Int) (h : room < 1 ∨ 64 < room) :
    Calls Try.prog 34 #[.pointer (some ⟨p2, 0, none⟩), .int .i64 room] w fun e w' => e = .returned (.tuple #[.pointer none, .int .i64 1]) ∧ w = w' := by
  have HT := Lib.hid (tref_New_bad w room h)
  clear h
  go_enter Try.func34, Try.ntmps34
  go_wp2_with fail
  ((with_reducible refine HT.out.mono ?_); rintro e w1 ⟨rfl, rfl⟩)
  clear HT
  go_wp2
  go_ret2
  exact ⟨rfl, rfl⟩
set_option maxHeartbeats 2000000 in
theorem law07_NewBad (K : Nat) (own : Nat → Nat) (r : Int) (hr : r < 1 ∨ 64 < r) (w : World) (v : Value) (cs : List (Int × Nat)) (hv : CellsAt w v cs) (hlen : cs.length ≤ 9223372036854775807) (hb : ∀ x ∈ cs, -9223372036854775808 ≤ x.1 ∧ x.1 ≤ 9223372036854775807 ∧ x.2 < 18446744073709551616) :
    Calls Try.prog 11 #[.int .i64 r, v] w fun e w' => ∃ rp p2 own', e = .returned (.tuple #[.agg #[.pointer none, .pointer none, .pointer (some ⟨rp, 0, none⟩), .pointer (some ⟨p2, 0, none⟩)], .bool true]) ∧
      Step (fun _ => False) own w own' w' := by
  have hst0 : Step (fun _ => False) own w (ext own w K) (w.alloc (.cells #[.pointer none, .pointer none, .pointer none, .pointer none] 31)) := ⟨(Upd.refl _ _).alloc _, fun b hb => ext_old _ _ _ hb⟩
  obtain ⟨M0, hM0⟩ : ∃ M0, cellsM 8 (fun _ => 0) cs = M0 := ⟨_, rfl⟩
  have hM := law_MemoryC 8 (by decide) (by decide) (ext own w K) (K + 2) (K + 5) (by omega) (w.alloc (.cells #[.pointer none, .pointer none, .pointer none, .pointer none] 31)) v cs (hv.upd hst0.upd) hlen hb
  rw [hM0] at hM
  rw [show ((8 : Nat) : Int) = 8 from rfl] at hM
  have HM := Lib.hid hM
  have H0 := Lib.hid (And.intro hst0 (And.intro (Blk.new w 31 #[.pointer none, .pointer none, .pointer none, .pointer none]) (show ext own w K w.heap.size = K from ext_new _ _ _ (Nat.le_refl _))))
  obtain ⟨A, cap, rfl, _⟩ := hv
  have HN := Lib.hid (fun rp w => io_New_bad rp w r hr)
  have HN2 := Lib.hid (fun rp w => uref_New_bad rp w r hr)
  clear hst0 hM hb hM0 hr
  go_enter Try.func11, Try.ntmps11
  go_wp2_with fail
  ((with_reducible refine HM.out.mono ?_); rintro e w1 ⟨rp, p2, own1, rfl, hS1, hA1, hB1⟩)
  have hS2 : Step (fun _ => False) own1 w1 (ext own1 w1 K) (w1.alloc (.cells #[.pointer (some ⟨rp, 0, none⟩), .pointer (some ⟨p2, 0, none⟩)] 29)) := ⟨(Upd.refl _ _).alloc _, fun b hb => ext_old _ _ _ hb⟩
  obtain ⟨k1, k2⟩ := (hS1.trans hS2).blk H0.out.2.1 H0.out.2.2 (fun h => h)
  have x0 := k1.cell 0
  have x1 := k1.cell 1
  have x2 := k1.cell 2
  have x3 := k1.cell 3
  have y0 := (Blk.new w1 29 #[.pointer (some ⟨rp, 0, none⟩), .pointer (some ⟨p2, 0, none⟩)]).cell 0
  have y1 := (Blk.new w1 29 #[.pointer (some ⟨rp, 0, none⟩), .pointer (some ⟨p2, 0, none⟩)]).cell 1
  simp only [List.getElem?_toArray, List.getElem?_cons_zero, List.getElem?_cons_succ] at x0 x1 x2 x3 y0 y1
  have f0 := k1.frozen 0
  have f1 := k1.frozen 1
  have f2 := k1.frozen 2
  have f3 := k1.frozen 3
  have hlr := k1.lt
  have hxl : w.heap.size ≤ w.heap.size := Nat.le_refl _
  have H1 := Lib.hid (And.intro ((H0.out.1.trans hS1).trans hS2) (And.intro k1 k2))
  clear hS1 hA1 hB1 hS2 k1 k2 HM H0
  go_wp2_with fail
  ((with_reducible refine (HN.out _ _).mono ?_); rintro e w2 ⟨rfl, rfl⟩)
  clear HN
  go_wp2_with fail
  ((with_reducible refine (HN2.out _ _).mono ?_); rintro e w2 ⟨rfl, rfl⟩)
  clear HN2
  generalize hxr : w.heap.size = xr at *
  generalize hxt : w1.heap.size = xt at *
  generalize (w1.alloc (.cells #[.pointer (some ⟨rp, 0, none⟩), .pointer (some ⟨p2, 0, none⟩)] 29)) = w3 at *
  generalize ext own1 w1 K = own3 at *
  go_wp2
  refine bodyPost_ret (results_cell_tmp_row rfl _ _ xr 31 #[.pointer none, .pointer none, .pointer (some ⟨rp, 0, none⟩), .pointer (some ⟨p2, 0, none⟩)] _ rfl ((((H1.out.2.1.set_ 0 (.pointer none)).set_ 1 (.pointer none)).set_ 2 (.pointer (some ⟨rp, 0, none⟩))).set_ 3 (.pointer (some ⟨p2, 0, none⟩))) Try.underlying31 rfl (by kernel_rfl)) rfl ?_
  have hup : Upd (· = xr) w3 ((((w3.setCell ⟨xr, 0, none⟩ (.pointer none)).setCell ⟨xr, 1, none⟩ (.pointer none)).setCell ⟨xr, 2, none⟩ (.pointer (some ⟨rp, 0, none⟩))).setCell ⟨xr, 3, none⟩ (.pointer (some ⟨p2, 0, none⟩))) :=
    ((((Upd.refl (· = xr) w3).setCell (p := ⟨xr, 0, none⟩) (.inl rfl) _).setCell (p := ⟨xr, 1, none⟩) (.inl rfl) _).setCell (p := ⟨xr, 2, none⟩) (.inl rfl) _).setCell (p := ⟨xr, 3, none⟩) (.inl rfl) _
  exact ⟨rp, p2, own3, rfl, ⟨H1.out.1.upd.trans' hup (fun i hi e => by omega), H1.out.1.old⟩⟩
end Go.Proofs.Ytlgcplekcmocbaa

/- IommuPlays: the walk. -/
namespace Go.Proofs.Ytlgcplekcmocbaa
set_option linter.unusedVariables false
set_option linter.unusedSimpArgs false
open Go.RowKit
set_option maxRecDepth 100000

/-- both IOMMUs, and the law's object -/
structure UB (w0 : World) (own : Nat → Nat) (w : World) (p q rp tp p2 t2 xo r : Nat) (s : Us) (m : Nat → Int) (l : List Tr) (ms : List To4) : Prop where
  st : Step (fun x => x ≠ 0 ∧ x < 50) (fun _ => 0) w0 own w
  a : PA own w p rp tp r s m l
  d : PD own w q p2 t2 r s m l ms
  i : PI s l ms
  o : Blk w xo 31 #[.pointer (some ⟨p, 0, none⟩), .pointer (some ⟨q, 0, none⟩), .pointer (some ⟨rp, 0, none⟩), .pointer (some ⟨p2, 0, none⟩)] ∧ own xo = 50
section
variable {w0 w w' : World} {own own' : Nat → Nat} {p q rp tp p2 t2 xo r : Nat} {s s' : Us} {m m' : Nat → Int} {l l' : List Tr} {ms ms' : List To4}
theorem UB.upd (h : UB w0 own w p q rp tp p2 t2 xo r s m l ms) : Upd (fun _ => False) w0 w := h.st.upd.mono (fun i hi e => absurd rfl e.1)
theorem UB.go (h : UB w0 own w p q rp tp p2 t2 xo r s m l ms) (hS : Step (fun x => x ≠ 0 ∧ x < 50) own w own' w') (hA : PA own' w' p rp tp r s' m' l') (hD : PD own' w' q p2 t2 r s' m' l' ms') (hI : PI s' l' ms') : UB w0 own' w' p q rp tp p2 t2 xo r s' m' l' ms' :=
  ⟨h.st.trans hS, hA, hD, hI, hS.blk h.o.1 h.o.2 (by omega)⟩
theorem UB.none_ (h : UB w0 own w p q rp tp p2 t2 xo r s m l ms) (hS : Step (fun _ => False) own w own' w') : UB w0 own' w' p q rp tp p2 t2 xo r s m l ms :=
  h.go (hS.mono (fun _ h => h.elim)) (h.a.step hS (fun _ h => h.elim)) (h.d.step hS (fun _ h => h.elim)) h.i
theorem UB.cells (h : UB w0 own w p q rp tp p2 t2 xo r s m l ms) : w.cell? ⟨xo, 0, none⟩ = some (.pointer (some ⟨p, 0, none⟩)) ∧ w.cell? ⟨xo, 1, none⟩ = some (.pointer (some ⟨q, 0, none⟩)) ∧ w.cell? ⟨xo, 2, none⟩ = some (.pointer (some ⟨rp, 0, none⟩)) ∧ w.cell? ⟨xo, 3, none⟩ = some (.pointer (some ⟨p2, 0, none⟩)) ∧ xo < w.heap.size := ⟨h.o.1.cell 0, h.o.1.cell 1, h.o.1.cell 2, h.o.1.cell 3, h.o.1.lt⟩
end
def opCells (g oo : Nat) (x : OpR) (W : World) : Prop :=
  W.cell? ⟨g, oo, none⟩ = some (.int .i64 x.k) ∧ W.cell? ⟨g, oo + 1, none⟩ = some (.int .i64 x.d) ∧ W.cell? ⟨g, oo + 2, none⟩ = some (.int .i64 x.s) ∧ W.cell? ⟨g, oo + 3, none⟩ = some (.int .u64 (x.a : Int)) ∧ W.cell? ⟨g, oo + 4, none⟩ = some (.int .u64 (x.v : Int)) ∧ W.cell? ⟨g, oo + 5, none⟩ = some (.bool x.wr) ∧ W.cell? ⟨g, oo + 6, none⟩ = some (.int .i64 x.g) ∧ W.cell? ⟨g, oo + 7, none⟩ = some (.int .i64 x.q)
theorem OpsAt.cellsU {w : World} {L : List OpR} {A : Option Addr} {cap : Nat} (h : OpsAt w (.slice A L.length cap) L) {k : Nat} {x : OpR} (hx : L[k]? = some x) : ∃ g o, A = some ⟨g, o, none⟩ ∧ g < w.heap.size ∧ ∀ w', Upd (fun _ => False) w w' → opCells g (o + k * 8) x w' := by
  obtain ⟨g, o, rfl, hg, _⟩ := h.cells hx
  refine ⟨g, o, rfl, hg, fun w' hU => ?_⟩
  obtain ⟨g', o', he, _, c⟩ := (h.upd hU).cells hx
  cases he
  exact c
/-- what is there for every load of a round -/
def uS (xo p q rp p2 g oo : Nat) (x : OpR) (W : World) : Prop :=
  W.cell? ⟨xo, 0, none⟩ = some (.pointer (some ⟨p, 0, none⟩)) ∧ W.cell? ⟨xo, 1, none⟩ = some (.pointer (some ⟨q, 0, none⟩)) ∧ W.cell? ⟨xo, 2, none⟩ = some (.pointer (some ⟨rp, 0, none⟩)) ∧ W.cell? ⟨xo, 3, none⟩ = some (.pointer (some ⟨p2, 0, none⟩)) ∧ opCells g oo x W
theorem UB.uS {w0 w : World} {own : Nat → Nat} {p q rp tp p2 t2 xo r g oo : Nat} {s : Us} {m : Nat → Int} {l : List Tr} {ms : List To4} {x : OpR} (h : UB w0 own w p q rp tp p2 t2 xo r s m l ms) (hc : ∀ w', Upd (fun _ => False) w0 w' → opCells g oo x w') : Go.Proofs.Ytlgcplekcmocbaa.uS xo p q rp p2 g oo x w := by
  obtain ⟨h0, h1, h2, h3, _⟩ := h.cells
  exact ⟨h0, h1, h2, h3, hc _ h.upd⟩
/-- what a round loads behind the call -/
def uT (q t2 : Nat) (ov : Bool) (v : Value) (W : World) : Prop := W.cell? ⟨q, 15, none⟩ = some (.bool ov) ∧ W.cell? ⟨q, 1, none⟩ = some (.pointer (some ⟨t2, 0, none⟩)) ∧ W.cell? ⟨t2, 1, none⟩ = some v
theorem UB.uT {w0 w : World} {own : Nat → Nat} {p q rp tp p2 t2 xo r : Nat} {s : Us} {m : Nat → Int} {l : List Tr} {ms : List To4} (h : UB w0 own w p q rp tp p2 t2 xo r s m l ms) : ∃ A cap, Go.Proofs.Ytlgcplekcmocbaa.uT q t2 s.ov (.slice A l.length cap) w ∧ Rw 115 4 own 12 w (.slice A l.length cap) l.length (trsC l) ∧ l.length ≤ 64 := by
  obtain ⟨⟨v, hb, ho, hR⟩, h1, h2, h3⟩ := h.d.tr
  obtain ⟨A, cap, hv, _⟩ := hR.form
  subst hv
  exact ⟨A, cap, ⟨h.d.ur.cells.2.2.2.2.2.2.1, h.d.ur.cells.2.1, hb.cell 1⟩, hR, by omega⟩
theorem uT_step {w0 w w' : World} {own own' : Nat → Nat} {p q rp tp p2 t2 xo r : Nat} {s : Us} {m : Nat → Int} {l : List Tr} {ms : List To4} {ov : Bool} {v : Value} (h : uT q t2 ov v w) (hB : UB w0 own w p q rp tp p2 t2 xo r s m l ms) (hS : Step (fun _ => False) own w own' w') : uT q t2 ov v w' := by
  have hq := hB.d.ur.cells.2.2.2.2.2.2.2
  obtain ⟨⟨_, hb, _⟩, _⟩ := hB.d.tr
  have ht := hb.lt
  exact ⟨(hS.upd.cell (p := ⟨q, 15, none⟩) hq (fun h => h)).trans h.1, (hS.upd.cell (p := ⟨q, 1, none⟩) hq (fun h => h)).trans h.2.1, (hS.upd.cell (p := ⟨t2, 1, none⟩) ht (fun h => h)).trans h.2.2⟩
theorem uST_drewN {xo p q rp p2 g oo t2 : Nat} {x : OpR} {ov : Bool} {v : Value} {w : World} (h : uS xo p q rp p2 g oo x w ∧ uT q t2 ov v w) (n : Nat) : uS xo p q rp p2 g oo x (w.drewN n) ∧ uT q t2 ov v (w.drewN n) := h
set_option maxHeartbeats 8000000 in
theorem plays_calls (w : World) (r : Nat) (hr : 1 ≤ r ∧ r ≤ 64) (v : Value) (cs : List (Int × Nat)) (hv : CellsAt w v cs) (hlen : cs.length ≤ 9223372036854775807) (hb : ∀ x ∈ cs, -9223372036854775808 ≤ x.1 ∧ x.1 ≤ 9223372036854775807 ∧ x.2 < 18446744073709551616)
    (A : Option Addr) (cap : Nat) (L : List OpR) (hL : OpsAt w (.slice A L.length cap) L) (hLb : ∀ o ∈ L, OpB o) (hLl : L.length ≤ 2199023255488) :
    Calls Try.prog 10 #[.int .i64 (r : Int), v, .slice A L.length cap] w fun e w' => e = .returned (.bool true) ∧ Upd (fun _ => False) w w' := by
  obtain ⟨M0, hM0⟩ : ∃ M0, cellsM 8 (fun _ => 0) cs = M0 := ⟨_, rfl⟩
  have hN := law07_NewC 0 (fun _ => 0) r hr w v cs hv hlen hb
  rw [hM0] at hN
  have HN := Lib.hid hN
  obtain ⟨A0, cap0, rfl, _⟩ := hv
  have HL := Lib.hid (And.intro hL (And.intro hLb hLl))
  clear hN hlen hb hL hLb hM0 hr
  go_enter Try.func10, Try.ntmps10
  go_wp2_with fail
  ((with_reducible refine HN.out.mono ?_); rintro e w1 ⟨p, q, rp, tp, p2, t2, own1, rfl, hS1, hO1⟩)
  have hS2 : Step (fun _ => False) own1 w1 (ext own1 w1 50) (w1.alloc (.cells #[.pointer (some ⟨p, 0, none⟩), .pointer (some ⟨q, 0, none⟩), .pointer (some ⟨rp, 0, none⟩), .pointer (some ⟨p2, 0, none⟩)] 31)) := ⟨(Upd.refl _ _).alloc _, fun b hb => ext_old _ _ _ hb⟩
  have hO2 := hO1.step hS2 (fun x h => h.elim)
  have hB1 : UB w (ext own1 w1 50) (w1.alloc (.cells #[.pointer (some ⟨p, 0, none⟩), .pointer (some ⟨q, 0, none⟩), .pointer (some ⟨rp, 0, none⟩), .pointer (some ⟨p2, 0, none⟩)] 31)) p q rp tp p2 t2 w1.heap.size r us0 M0 [] [] :=
    ⟨(hS1.trans hS2).mono (fun _ h => h.elim), ⟨hO2.u, hO2.mm, hO2.t⟩, ⟨hO2.mr, hO2.ur, hO2.tr⟩, ⟨UsOk.init 8, fun t ht => (by cases ht), List.Pairwise.nil, MsRel.init⟩, Blk.new w1 _ _, ext_new _ _ _ (Nat.le_refl _)⟩
  obtain ⟨x0, x1, x2, x3, xl⟩ := hB1.cells
  have H1 := Lib.hid (show ∃ own' s m l ms, UB w own' (w1.alloc (.cells #[.pointer (some ⟨p, 0, none⟩), .pointer (some ⟨q, 0, none⟩), .pointer (some ⟨rp, 0, none⟩), .pointer (some ⟨p2, 0, none⟩)] 31)) p q rp tp p2 t2 w1.heap.size r s m l ms ∧ ms.length ≤ 0 from ⟨_, _, _, _, _, hB1, Nat.le_refl _⟩)
  clear hS1 hO1 hS2 hO2 hB1 HN
  generalize hw2 : (w1.alloc (.cells #[.pointer (some ⟨p, 0, none⟩), .pointer (some ⟨q, 0, none⟩), .pointer (some ⟨rp, 0, none⟩), .pointer (some ⟨p2, 0, none⟩)] 31)) = w2 at *
  generalize hxo : w1.heap.size = xo at *
  go_wp2
  go_loopw [9] (fun i wr => ∃ (j : Nat), j ≤ L.length ∧ i = .int .i64 (j : Int) ∧ Hid (∃ own' s m l ms, UB w own' wr p q rp tp p2 t2 xo r s m l ms ∧ ms.length ≤ j)) (fun i _ => L.length - (intOf i).toNat)
  case atStart => exact ⟨0, by omega, rfl, H1.out⟩
  case round =>
    rename World => wr
    obtain ⟨j, hj, rfl, HLo⟩ := hrel
    clear H1 x0 x1 x2 x3 xl
    obtain ⟨own2, s, m, l, ms, hB, hmj⟩ := HLo.out
    by_cases hlt : j < L.length
    · have hlt' : (j : Int) < (L.length : Int) := by omega
      have hget : L[j]? = some L[j] := List.getElem?_eq_getElem hlt
      have hob := HL.out.2.1 _ (List.getElem_mem hlt)
      obtain ⟨g, o, rfl, hg, hcc⟩ := HL.out.1.cellsU hget
      generalize L[j] = x at *
      obtain ⟨xk, xd, xs, xa, xv, xw, xg, xq⟩ := x
      have hB1 := hB.none_ (Step.refl (fun _ => False) _ _).drew
      have HDO := Lib.hid (do_any (xd := xd) (xg := xg) (xq := xq) (xw := xw) hB1.a hB1.d hB1.i (by have := HL.out.2.2; omega) hob.k hob.s hob.a hob.v)
      have HUS := Lib.hid (hB1.uS hcc)
      have H2 := Lib.hid (And.intro hB1 (And.intro hcc hmj))
      clear hB hob hB1 hcc hmj hget HLo
      go_wp2_with fail
      refine wpE_region (S := fun (W' : World) => uS xo p q rp p2 g (o + j * 8) ⟨xk, xd, xs, xa, xv, xw, xg, xq⟩ W' ∧ True) (s := 32) (by kernel_rfl) ?_
      have hS : (fun (W' : World) => uS xo p q rp p2 g (o + j * 8) ⟨xk, xd, xs, xa, xv, xw, xg, xq⟩ W' ∧ True) _ := ⟨HUS.out, trivial⟩
      refine wpE_take (i := 0) (oi := { dst := some 28, op := Go.Op.load 31 (Go.Operand.tmp 7), type := 31, pos := "law.go:95", after := #[], guard := none }) (v := ?_) rfl (by kernel_rfl) (fun _ _ _ h => h) (Or.inl ⟨by rfl, fun W hW => ?_⟩) hS ?_
      rotate_left
      · obtain ⟨⟨hw0, hw1, hw2, hw3, hw4, hw5, hw6, hw7, hw8, hw9, hw10, hw11⟩, hz⟩ := hW; (try obtain ⟨hz1, hz2, hz3⟩ := hz); (try simp only [] at hw4 hw5 hw6 hw7 hw8 hw9 hw10 hw11); go_simp; (try go_bits); (try rw [if_pos (by omega)]); (try with_reducible rfl)
      (try simp only [Act.put, List.setIfInBounds_toArray, List.set_cons_succ, List.set_cons_zero])
      refine wpE_take (i := 1) (oi := { dst := some 29, op := Go.Op.move (Go.Operand.tmp 2), type := 49, pos := "law.go:95", after := #[], guard := none }) (v := ?_) rfl (by kernel_rfl) (fun _ _ _ h => h) (Or.inl ⟨by rfl, fun W hW => ?_⟩) hS ?_
      rotate_left
      · obtain ⟨⟨hw0, hw1, hw2, hw3, hw4, hw5, hw6, hw7, hw8, hw9, hw10, hw11⟩, hz⟩ := hW; (try obtain ⟨hz1, hz2, hz3⟩ := hz); (try simp only [] at hw4 hw5 hw6 hw7 hw8 hw9 hw10 hw11); go_simp; (try go_bits); (try rw [if_pos (by omega)]); (try with_reducible rfl)
      (try simp only [Act.put, List.setIfInBounds_toArray, List.set_cons_succ, List.set_cons_zero])
      refine wpE_take (i := 2) (oi := { dst := some 30, op := Go.Op.move (Go.Operand.tmp 9), type := 3, pos := "law.go:95", after := #[], guard := none }) (v := ?_) rfl (by kernel_rfl) (fun _ _ _ h => h) (Or.inl ⟨by rfl, fun W hW => ?_⟩) hS ?_
      rotate_left
      · obtain ⟨⟨hw0, hw1, hw2, hw3, hw4, hw5, hw6, hw7, hw8, hw9, hw10, hw11⟩, hz⟩ := hW; (try obtain ⟨hz1, hz2, hz3⟩ := hz); (try simp only [] at hw4 hw5 hw6 hw7 hw8 hw9 hw10 hw11); go_simp; (try go_bits); (try rw [if_pos (by omega)]); (try with_reducible rfl)
      (try simp only [Act.put, List.setIfInBounds_toArray, List.set_cons_succ, List.set_cons_zero])
      refine wpE_take (i := 3) (oi := { dst := some 31, op := Go.Op.indexAddr 49 (Go.Operand.tmp 29) (Go.Operand.tmp 30), type := 0, pos := "law.go:95", after := #[{ on := 1, ground := Go.Ground.data }, { on := 2, ground := Go.Ground.data }], guard := none }) (v := ?_) rfl (by kernel_rfl) (fun _ _ _ h => h) (Or.inl ⟨by rfl, fun W hW => ?_⟩) hS ?_
      rotate_left
      · obtain ⟨⟨hw0, hw1, hw2, hw3, hw4, hw5, hw6, hw7, hw8, hw9, hw10, hw11⟩, hz⟩ := hW; (try obtain ⟨hz1, hz2, hz3⟩ := hz); (try simp only [] at hw4 hw5 hw6 hw7 hw8 hw9 hw10 hw11); go_simp; (try go_bits); (try rw [if_pos (by omega)]); (try with_reducible rfl)
      (try simp only [Act.put, List.setIfInBounds_toArray, List.set_cons_succ, List.set_cons_zero])
      refine wpE_take (i := 4) (oi := { dst := some 32, op := Go.Op.load 54 (Go.Operand.tmp 31), type := 54, pos := "law.go:95", after := #[{ on := 3, ground := Go.Ground.data }], guard := none }) (v := ?_) rfl (by kernel_rfl) (fun _ _ _ h => h) (Or.inl ⟨by rfl, fun W hW => ?_⟩) hS ?_
      rotate_left
      · obtain ⟨⟨hw0, hw1, hw2, hw3, hw4, hw5, hw6, hw7, hw8, hw9, hw10, hw11⟩, hz⟩ := hW; (try obtain ⟨hz1, hz2, hz3⟩ := hz); (try simp only [] at hw4 hw5 hw6 hw7 hw8 hw9 hw10 hw11); go_simp; (try go_bits); (try rw [if_pos (by omega)]); (try with_reducible rfl)
      (try simp only [Act.put, List.setIfInBounds_toArray, List.set_cons_succ, List.set_cons_zero])
      refine wpE_only (i := 5) (oi := { dst := some 33, op := Go.Op.call { callee := Go.Callee.value (Go.Operand.func 29), args := #[Go.Operand.tmp 28, Go.Operand.tmp 32], argTypes := #[31, 54] }, type := 4, pos := "law.go:95", after := #[{ on := 0, ground := Go.Ground.data }, { on := 4, ground := Go.Ground.data }], guard := none }) rfl (by kernel_rfl) (by rfl) (fun K hK => ?_)
      go_simp; refine HDO.out.mono ?_; rintro e w3 ⟨rfl, own3, s3, m3, l3, ms3, hS3, hA3, hD3, hI3, hl3⟩
      have hB3 := H2.out.1.go hS3 hA3 hD3 hI3
      have hj3 : ms3.length ≤ j + 1 := Nat.le_trans hl3 (Nat.succ_le_succ H2.out.2.2)
      obtain ⟨A3, cap3, hz3, hR3, hl64⟩ := hB3.uT
      have hus3 := hB3.uS H2.out.2.1
      have H3 := Lib.hid (And.intro hB3 (And.intro hR3 (And.intro hl64 (And.intro H2.out.2.1 hj3))))
      clear hS3 hA3 hD3 hI3 hl3 hB3 hj3 hR3 hl64 HDO H2 HUS
      obtain ⟨ov, hov⟩ : ∃ ov, s3.ov = ov := ⟨_, rfl⟩
      rw [hov] at hz3
      have HOV := Lib.hid hov
      clear hov
      refine hK _ _ ⟨hus3, trivial⟩ ?_; clear hK K hS
      refine wpE_mono (S' := fun (W' : World) => uS xo p q rp p2 g (o + j * 8) ⟨xk, xd, xs, xa, xv, xw, xg, xq⟩ W' ∧ uT q t2 ov (.slice A3 l3.length cap3) W') (fun _ h => ⟨h.1, trivial⟩) _ _ _ _ ?_
      have hS : uS xo p q rp p2 g (o + j * 8) ⟨xk, xd, xs, xa, xv, xw, xg, xq⟩ w3 ∧ uT q t2 ov (.slice A3 l3.length cap3) w3 := ⟨hus3, hz3⟩
      clear hus3 hz3
      (try simp only [Act.put, List.setIfInBounds_toArray, List.set_cons_succ, List.set_cons_zero])
      refine wpE_take (i := 6) (oi := { dst := some 34, op := Go.Op.unOp Go.UnOp.not 4 (Go.Operand.tmp 33), type := 4, pos := "law.go:95", after := #[{ on := 5, ground := Go.Ground.data }], guard := none }) (v := ?_) rfl (by kernel_rfl) (fun _ _ _ h => h) (Or.inl ⟨by rfl, fun W hW => ?_⟩) hS ?_
      rotate_left
      · obtain ⟨⟨hw0, hw1, hw2, hw3, hw4, hw5, hw6, hw7, hw8, hw9, hw10, hw11⟩, hz⟩ := hW; (try obtain ⟨hz1, hz2, hz3⟩ := hz); (try simp only [] at hw4 hw5 hw6 hw7 hw8 hw9 hw10 hw11); go_simp; (try go_bits); (try rw [if_pos (by omega)]); (try with_reducible rfl)
      (try simp only [Act.put, List.setIfInBounds_toArray, List.set_cons_succ, List.set_cons_zero])
      refine wpE_take (i := 7) (oi := { dst := some 35, op := Go.Op.move (Go.Operand.tmp 34), type := 4, pos := "law.go:95", after := #[{ on := 6, ground := Go.Ground.data }, { on := 5, ground := Go.Ground.chain }], guard := none }) (v := ?_) rfl (by kernel_rfl) (fun _ _ _ h => h) (Or.inl ⟨by rfl, fun W hW => ?_⟩) hS ?_
      rotate_left
      · obtain ⟨⟨hw0, hw1, hw2, hw3, hw4, hw5, hw6, hw7, hw8, hw9, hw10, hw11⟩, hz⟩ := hW; (try obtain ⟨hz1, hz2, hz3⟩ := hz); (try simp only [] at hw4 hw5 hw6 hw7 hw8 hw9 hw10 hw11); go_simp; (try go_bits); (try rw [if_pos (by omega)]); (try with_reducible rfl)
      (try simp only [Act.put, List.setIfInBounds_toArray, List.set_cons_succ, List.set_cons_zero])
      refine wpE_take (i := 8) (oi := { dst := some 36, op := Go.Op.fieldAddr 31 (Go.Operand.tmp 7) 0, type := 0, pos := "law.go:95", after := #[{ on := 7, ground := Go.Ground.guard }], guard := some (7, false) }) (v := ?_) rfl (by kernel_rfl) (fun _ _ _ h => h) (Or.inl ⟨by rfl, fun W hW => ?_⟩) hS ?_
      rotate_left
      · obtain ⟨⟨hw0, hw1, hw2, hw3, hw4, hw5, hw6, hw7, hw8, hw9, hw10, hw11⟩, hz⟩ := hW; (try obtain ⟨hz1, hz2, hz3⟩ := hz); (try simp only [] at hw4 hw5 hw6 hw7 hw8 hw9 hw10 hw11); go_simp; (try go_bits); (try rw [if_pos (by omega)]); (try with_reducible rfl)
      (try simp only [Act.put, List.setIfInBounds_toArray, List.set_cons_succ, List.set_cons_zero])
      refine wpE_take (i := 9) (oi := { dst := some 37, op := Go.Op.load 24 (Go.Operand.tmp 36), type := 24, pos := "law.go:95", after := #[{ on := 8, ground := Go.Ground.data }, { on := 7, ground := Go.Ground.guard }], guard := some (7, false) }) (v := ?_) rfl (by kernel_rfl) (fun _ _ _ h => h) (Or.inl ⟨by rfl, fun W hW => ?_⟩) hS ?_
      rotate_left
      · obtain ⟨⟨hw0, hw1, hw2, hw3, hw4, hw5, hw6, hw7, hw8, hw9, hw10, hw11⟩, hz⟩ := hW; (try obtain ⟨hz1, hz2, hz3⟩ := hz); (try simp only [] at hw4 hw5 hw6 hw7 hw8 hw9 hw10 hw11); go_simp; (try go_bits); (try rw [if_pos (by omega)]); (try with_reducible rfl)
      (try simp only [Act.put, List.setIfInBounds_toArray, List.set_cons_succ, List.set_cons_zero])
      refine wpE_take (i := 11) (oi := { dst := some 39, op := Go.Op.fieldAddr 31 (Go.Operand.tmp 7) 1, type := 0, pos := "law.go:95", after := #[{ on := 7, ground := Go.Ground.guard }], guard := some (7, false) }) (v := ?_) rfl (by kernel_rfl) (fun _ _ _ h => h) (Or.inl ⟨by rfl, fun W hW => ?_⟩) hS ?_
      rotate_left
      · obtain ⟨⟨hw0, hw1, hw2, hw3, hw4, hw5, hw6, hw7, hw8, hw9, hw10, hw11⟩, hz⟩ := hW; (try obtain ⟨hz1, hz2, hz3⟩ := hz); (try simp only [] at hw4 hw5 hw6 hw7 hw8 hw9 hw10 hw11); go_simp; (try go_bits); (try rw [if_pos (by omega)]); (try with_reducible rfl)
      (try simp only [Act.put, List.setIfInBounds_toArray, List.set_cons_succ, List.set_cons_zero])
      refine wpE_take (i := 12) (oi := { dst := some 40, op := Go.Op.load 25 (Go.Operand.tmp 39), type := 25, pos := "law.go:95", after := #[{ on := 11, ground := Go.Ground.data }, { on := 7, ground := Go.Ground.guard }], guard := some (7, false) }) (v := ?_) rfl (by kernel_rfl) (fun _ _ _ h => h) (Or.inl ⟨by rfl, fun W hW => ?_⟩) hS ?_
      rotate_left
      · obtain ⟨⟨hw0, hw1, hw2, hw3, hw4, hw5, hw6, hw7, hw8, hw9, hw10, hw11⟩, hz⟩ := hW; (try obtain ⟨hz1, hz2, hz3⟩ := hz); (try simp only [] at hw4 hw5 hw6 hw7 hw8 hw9 hw10 hw11); go_simp; (try go_bits); (try rw [if_pos (by omega)]); (try with_reducible rfl)
      (try simp only [Act.put, List.setIfInBounds_toArray, List.set_cons_succ, List.set_cons_zero])
      refine wpE_take (i := 13) (oi := { dst := some 41, op := Go.Op.nilCheck (Go.Operand.tmp 40), type := 0, pos := "law.go:95", after := #[{ on := 12, ground := Go.Ground.data }, { on := 7, ground := Go.Ground.guard }], guard := some (7, false) }) (v := ?_) rfl (by kernel_rfl) (fun _ _ _ h => h) (Or.inl ⟨by rfl, fun W hW => ?_⟩) hS ?_
      rotate_left
      · obtain ⟨⟨hw0, hw1, hw2, hw3, hw4, hw5, hw6, hw7, hw8, hw9, hw10, hw11⟩, hz⟩ := hW; (try obtain ⟨hz1, hz2, hz3⟩ := hz); (try simp only [] at hw4 hw5 hw6 hw7 hw8 hw9 hw10 hw11); go_simp; (try go_bits); (try rw [if_pos (by omega)]); (try with_reducible rfl)
      (try simp only [Act.put, List.setIfInBounds_toArray, List.set_cons_succ, List.set_cons_zero])
      refine wpE_take (i := 14) (oi := { dst := some 42, op := Go.Op.fieldAddr 79 (Go.Operand.tmp 41) 8, type := 0, pos := "law.go:95", after := #[{ on := 13, ground := Go.Ground.data }, { on := 7, ground := Go.Ground.guard }], guard := some (7, false) }) (v := ?_) rfl (by kernel_rfl) (fun _ _ _ h => h) (Or.inl ⟨by rfl, fun W hW => ?_⟩) hS ?_
      rotate_left
      · obtain ⟨⟨hw0, hw1, hw2, hw3, hw4, hw5, hw6, hw7, hw8, hw9, hw10, hw11⟩, hz⟩ := hW; (try obtain ⟨hz1, hz2, hz3⟩ := hz); (try simp only [] at hw4 hw5 hw6 hw7 hw8 hw9 hw10 hw11); go_simp; (try go_bits); (try rw [if_pos (by omega)]); (try with_reducible rfl)
      (try simp only [Act.put, List.setIfInBounds_toArray, List.set_cons_succ, List.set_cons_zero])
      refine wpE_take (i := 15) (oi := { dst := some 43, op := Go.Op.load 4 (Go.Operand.tmp 42), type := 4, pos := "law.go:95", after := #[{ on := 14, ground := Go.Ground.data }, { on := 7, ground := Go.Ground.guard }], guard := some (7, false) }) (v := ?_) rfl (by kernel_rfl) (fun _ _ _ h => h) (Or.inl ⟨by rfl, fun W hW => ?_⟩) hS ?_
      rotate_left
      · obtain ⟨⟨hw0, hw1, hw2, hw3, hw4, hw5, hw6, hw7, hw8, hw9, hw10, hw11⟩, hz⟩ := hW; (try obtain ⟨hz1, hz2, hz3⟩ := hz); (try simp only [] at hw4 hw5 hw6 hw7 hw8 hw9 hw10 hw11); go_simp; (try go_bits); (try rw [if_pos (by omega)]); (try with_reducible rfl)
      (try simp only [Act.put, List.setIfInBounds_toArray, List.set_cons_succ, List.set_cons_zero])
      refine wpE_only (i := 10) (oi := { dst := some 38, op := Go.Op.call { callee := Go.Callee.value (Go.Operand.func 23), args := #[Go.Operand.tmp 37], argTypes := #[24] }, type := 4, pos := "law.go:95", after := #[{ on := 9, ground := Go.Ground.data }, { on := 7, ground := Go.Ground.chain }, { on := 7, ground := Go.Ground.guard }], guard := some (7, false) }) rfl (by kernel_rfl) (by rfl) (fun K hK => ?_)
      go_simp; refine (io_Overflow H3.out.1.a.u).mono ?_; rintro e wz ⟨rfl, rfl⟩; rw [HOV.out]; refine hK _ _ hS ?_; clear hK K
      (try simp only [Act.put, List.setIfInBounds_toArray, List.set_cons_succ, List.set_cons_zero])
      refine wpE_take (i := 16) (oi := { dst := some 44, op := Go.Op.binOp Go.BinOp.neq 4 (Go.Operand.tmp 38) (Go.Operand.tmp 43) 4, type := 4, pos := "law.go:95", after := #[{ on := 10, ground := Go.Ground.data }, { on := 15, ground := Go.Ground.data }, { on := 7, ground := Go.Ground.guard }], guard := some (7, false) }) (v := .bool false) rfl (by kernel_rfl) (fun _ _ _ h => h) (Or.inl ⟨by rfl, fun W hW => ?_⟩) hS ?_
      · obtain ⟨⟨hw0, hw1, hw2, hw3, hw4, hw5, hw6, hw7, hw8, hw9, hw10, hw11⟩, hz⟩ := hW; (try obtain ⟨hz1, hz2, hz3⟩ := hz); (try simp only [] at hw4 hw5 hw6 hw7 hw8 hw9 hw10 hw11); (cases ov <;> go_simp)
      (try simp only [Act.put, List.setIfInBounds_toArray, List.set_cons_succ, List.set_cons_zero])
      refine wpE_take (i := 17) (oi := { dst := some 45, op := Go.Op.pick (Go.Operand.tmp 35) (Go.Operand.const (Go.Value.bool true)) (Go.Operand.tmp 44), type := 4, pos := "law.go:95", after := #[{ on := 7, ground := Go.Ground.data }, { on := 16, ground := Go.Ground.data }], guard := none }) (v := ?_) rfl (by kernel_rfl) (fun _ _ _ h => h) (Or.inl ⟨by rfl, fun W hW => ?_⟩) hS ?_
      rotate_left
      · obtain ⟨⟨hw0, hw1, hw2, hw3, hw4, hw5, hw6, hw7, hw8, hw9, hw10, hw11⟩, hz⟩ := hW; (try obtain ⟨hz1, hz2, hz3⟩ := hz); (try simp only [] at hw4 hw5 hw6 hw7 hw8 hw9 hw10 hw11); go_simp; (try go_bits); (try rw [if_pos (by omega)]); (try with_reducible rfl)
      (try simp only [Act.put, List.setIfInBounds_toArray, List.set_cons_succ, List.set_cons_zero])
      refine wpE_take (i := 18) (oi := { dst := some 46, op := Go.Op.move (Go.Operand.tmp 45), type := 4, pos := "law.go:95", after := #[{ on := 17, ground := Go.Ground.data }, { on := 10, ground := Go.Ground.chain }], guard := none }) (v := ?_) rfl (by kernel_rfl) (fun _ _ _ h => h) (Or.inl ⟨by rfl, fun W hW => ?_⟩) hS ?_
      rotate_left
      · obtain ⟨⟨hw0, hw1, hw2, hw3, hw4, hw5, hw6, hw7, hw8, hw9, hw10, hw11⟩, hz⟩ := hW; (try obtain ⟨hz1, hz2, hz3⟩ := hz); (try simp only [] at hw4 hw5 hw6 hw7 hw8 hw9 hw10 hw11); go_simp; (try go_bits); (try rw [if_pos (by omega)]); (try with_reducible rfl)
      (try simp only [Act.put, List.setIfInBounds_toArray, List.set_cons_succ, List.set_cons_zero])
      refine wpE_take (i := 19) (oi := { dst := some 47, op := Go.Op.fieldAddr 31 (Go.Operand.tmp 7) 0, type := 0, pos := "law.go:95", after := #[{ on := 18, ground := Go.Ground.guard }], guard := some (18, false) }) (v := ?_) rfl (by kernel_rfl) (fun _ _ _ h => h) (Or.inl ⟨by rfl, fun W hW => ?_⟩) hS ?_
      rotate_left
      · obtain ⟨⟨hw0, hw1, hw2, hw3, hw4, hw5, hw6, hw7, hw8, hw9, hw10, hw11⟩, hz⟩ := hW; (try obtain ⟨hz1, hz2, hz3⟩ := hz); (try simp only [] at hw4 hw5 hw6 hw7 hw8 hw9 hw10 hw11); go_simp; (try go_bits); (try rw [if_pos (by omega)]); (try with_reducible rfl)
      (try simp only [Act.put, List.setIfInBounds_toArray, List.set_cons_succ, List.set_cons_zero])
      refine wpE_take (i := 20) (oi := { dst := some 48, op := Go.Op.load 24 (Go.Operand.tmp 47), type := 24, pos := "law.go:95", after := #[{ on := 19, ground := Go.Ground.data }, { on := 18, ground := Go.Ground.guard }], guard := some (18, false) }) (v := ?_) rfl (by kernel_rfl) (fun _ _ _ h => h) (Or.inl ⟨by rfl, fun W hW => ?_⟩) hS ?_
      rotate_left
      · obtain ⟨⟨hw0, hw1, hw2, hw3, hw4, hw5, hw6, hw7, hw8, hw9, hw10, hw11⟩, hz⟩ := hW; (try obtain ⟨hz1, hz2, hz3⟩ := hz); (try simp only [] at hw4 hw5 hw6 hw7 hw8 hw9 hw10 hw11); go_simp; (try go_bits); (try rw [if_pos (by omega)]); (try with_reducible rfl)
      (try simp only [Act.put, List.setIfInBounds_toArray, List.set_cons_succ, List.set_cons_zero])
      refine wpE_take (i := 22) (oi := { dst := some 50, op := Go.Op.fieldAddr 31 (Go.Operand.tmp 7) 1, type := 0, pos := "law.go:95", after := #[{ on := 18, ground := Go.Ground.guard }], guard := some (18, false) }) (v := ?_) rfl (by kernel_rfl) (fun _ _ _ h => h) (Or.inl ⟨by rfl, fun W hW => ?_⟩) hS ?_
      rotate_left
      · obtain ⟨⟨hw0, hw1, hw2, hw3, hw4, hw5, hw6, hw7, hw8, hw9, hw10, hw11⟩, hz⟩ := hW; (try obtain ⟨hz1, hz2, hz3⟩ := hz); (try simp only [] at hw4 hw5 hw6 hw7 hw8 hw9 hw10 hw11); go_simp; (try go_bits); (try rw [if_pos (by omega)]); (try with_reducible rfl)
      (try simp only [Act.put, List.setIfInBounds_toArray, List.set_cons_succ, List.set_cons_zero])
      refine wpE_take (i := 23) (oi := { dst := some 51, op := Go.Op.load 25 (Go.Operand.tmp 50), type := 25, pos := "law.go:95", after := #[{ on := 22, ground := Go.Ground.data }, { on := 18, ground := Go.Ground.guard }], guard := some (18, false) }) (v := ?_) rfl (by kernel_rfl) (fun _ _ _ h => h) (Or.inl ⟨by rfl, fun W hW => ?_⟩) hS ?_
      rotate_left
      · obtain ⟨⟨hw0, hw1, hw2, hw3, hw4, hw5, hw6, hw7, hw8, hw9, hw10, hw11⟩, hz⟩ := hW; (try obtain ⟨hz1, hz2, hz3⟩ := hz); (try simp only [] at hw4 hw5 hw6 hw7 hw8 hw9 hw10 hw11); go_simp; (try go_bits); (try rw [if_pos (by omega)]); (try with_reducible rfl)
      (try simp only [Act.put, List.setIfInBounds_toArray, List.set_cons_succ, List.set_cons_zero])
      refine wpE_take (i := 24) (oi := { dst := some 52, op := Go.Op.nilCheck (Go.Operand.tmp 51), type := 0, pos := "law.go:95", after := #[{ on := 23, ground := Go.Ground.data }, { on := 18, ground := Go.Ground.guard }], guard := some (18, false) }) (v := ?_) rfl (by kernel_rfl) (fun _ _ _ h => h) (Or.inl ⟨by rfl, fun W hW => ?_⟩) hS ?_
      rotate_left
      · obtain ⟨⟨hw0, hw1, hw2, hw3, hw4, hw5, hw6, hw7, hw8, hw9, hw10, hw11⟩, hz⟩ := hW; (try obtain ⟨hz1, hz2, hz3⟩ := hz); (try simp only [] at hw4 hw5 hw6 hw7 hw8 hw9 hw10 hw11); go_simp; (try go_bits); (try rw [if_pos (by omega)]); (try with_reducible rfl)
      (try simp only [Act.put, List.setIfInBounds_toArray, List.set_cons_succ, List.set_cons_zero])
      refine wpE_take (i := 25) (oi := { dst := some 53, op := Go.Op.fieldAddr 79 (Go.Operand.tmp 52) 1, type := 0, pos := "law.go:95", after := #[{ on := 24, ground := Go.Ground.data }, { on := 18, ground := Go.Ground.guard }], guard := some (18, false) }) (v := ?_) rfl (by kernel_rfl) (fun _ _ _ h => h) (Or.inl ⟨by rfl, fun W hW => ?_⟩) hS ?_
      rotate_left
      · obtain ⟨⟨hw0, hw1, hw2, hw3, hw4, hw5, hw6, hw7, hw8, hw9, hw10, hw11⟩, hz⟩ := hW; (try obtain ⟨hz1, hz2, hz3⟩ := hz); (try simp only [] at hw4 hw5 hw6 hw7 hw8 hw9 hw10 hw11); go_simp; (try go_bits); (try rw [if_pos (by omega)]); (try with_reducible rfl)
      (try simp only [Act.put, List.setIfInBounds_toArray, List.set_cons_succ, List.set_cons_zero])
      refine wpE_take (i := 26) (oi := { dst := some 54, op := Go.Op.load 75 (Go.Operand.tmp 53), type := 75, pos := "law.go:95", after := #[{ on := 25, ground := Go.Ground.data }, { on := 18, ground := Go.Ground.guard }], guard := some (18, false) }) (v := ?_) rfl (by kernel_rfl) (fun _ _ _ h => h) (Or.inl ⟨by rfl, fun W hW => ?_⟩) hS ?_
      rotate_left
      · obtain ⟨⟨hw0, hw1, hw2, hw3, hw4, hw5, hw6, hw7, hw8, hw9, hw10, hw11⟩, hz⟩ := hW; (try obtain ⟨hz1, hz2, hz3⟩ := hz); (try simp only [] at hw4 hw5 hw6 hw7 hw8 hw9 hw10 hw11); go_simp; (try go_bits); (try rw [if_pos (by omega)]); (try with_reducible rfl)
      (try simp only [Act.put, List.setIfInBounds_toArray, List.set_cons_succ, List.set_cons_zero])
      refine wpE_take (i := 27) (oi := { dst := some 55, op := Go.Op.nilCheck (Go.Operand.tmp 54), type := 0, pos := "law.go:95", after := #[{ on := 26, ground := Go.Ground.data }, { on := 18, ground := Go.Ground.guard }], guard := some (18, false) }) (v := ?_) rfl (by kernel_rfl) (fun _ _ _ h => h) (Or.inl ⟨by rfl, fun W hW => ?_⟩) hS ?_
      rotate_left
      · obtain ⟨⟨hw0, hw1, hw2, hw3, hw4, hw5, hw6, hw7, hw8, hw9, hw10, hw11⟩, hz⟩ := hW; (try obtain ⟨hz1, hz2, hz3⟩ := hz); (try simp only [] at hw4 hw5 hw6 hw7 hw8 hw9 hw10 hw11); go_simp; (try go_bits); (try rw [if_pos (by omega)]); (try with_reducible rfl)
      (try simp only [Act.put, List.setIfInBounds_toArray, List.set_cons_succ, List.set_cons_zero])
      refine wpE_take (i := 28) (oi := { dst := some 56, op := Go.Op.fieldAddr 82 (Go.Operand.tmp 55) 1, type := 0, pos := "law.go:95", after := #[{ on := 27, ground := Go.Ground.data }, { on := 18, ground := Go.Ground.guard }], guard := some (18, false) }) (v := ?_) rfl (by kernel_rfl) (fun _ _ _ h => h) (Or.inl ⟨by rfl, fun W hW => ?_⟩) hS ?_
      rotate_left
      · obtain ⟨⟨hw0, hw1, hw2, hw3, hw4, hw5, hw6, hw7, hw8, hw9, hw10, hw11⟩, hz⟩ := hW; (try obtain ⟨hz1, hz2, hz3⟩ := hz); (try simp only [] at hw4 hw5 hw6 hw7 hw8 hw9 hw10 hw11); go_simp; (try go_bits); (try rw [if_pos (by omega)]); (try with_reducible rfl)
      (try simp only [Act.put, List.setIfInBounds_toArray, List.set_cons_succ, List.set_cons_zero])
      refine wpE_take (i := 29) (oi := { dst := some 57, op := Go.Op.load 64 (Go.Operand.tmp 56), type := 64, pos := "law.go:95", after := #[{ on := 28, ground := Go.Ground.data }, { on := 18, ground := Go.Ground.guard }], guard := some (18, false) }) (v := ?_) rfl (by kernel_rfl) (fun _ _ _ h => h) (Or.inl ⟨by rfl, fun W hW => ?_⟩) hS ?_
      rotate_left
      · obtain ⟨⟨hw0, hw1, hw2, hw3, hw4, hw5, hw6, hw7, hw8, hw9, hw10, hw11⟩, hz⟩ := hW; (try obtain ⟨hz1, hz2, hz3⟩ := hz); (try simp only [] at hw4 hw5 hw6 hw7 hw8 hw9 hw10 hw11); go_simp; (try go_bits); (try rw [if_pos (by omega)]); (try with_reducible rfl)
      (try simp only [Act.put, List.setIfInBounds_toArray, List.set_cons_succ, List.set_cons_zero])
      refine wpE_only (i := 21) (oi := { dst := some 49, op := Go.Op.call { callee := Go.Callee.value (Go.Operand.func 25), args := #[Go.Operand.tmp 48], argTypes := #[24] }, type := 64, pos := "law.go:95", after := #[{ on := 20, ground := Go.Ground.data }, { on := 18, ground := Go.Ground.chain }, { on := 18, ground := Go.Ground.guard }], guard := some (18, false) }) rfl (by kernel_rfl) (by rfl) (fun K hK => ?_)
      go_simp; refine (io_Entries H3.out.1.a.u H3.out.1.a.t 50).mono ?_; rintro e w4 ⟨v4, rfl, hS4, hR4⟩
      obtain ⟨A4, cap4, hv4, _⟩ := hR4.form
      subst hv4
      have hB4 := H3.out.1.none_ hS4
      have hr1 := hR4.reads rfl
      have hr2 := (H3.out.2.1.step hS4 (fun h => h)).reads rfl
      have HST := Lib.hid (same_trans (cb := cap3) (ca := cap4) (Nat.le_trans H3.out.2.2.1 (by decide)) hr1 hr2)
      have hz4 : uS xo p q rp p2 g (o + j * 8) ⟨xk, xd, xs, xa, xv, xw, xg, xq⟩ w4 ∧ uT q t2 ov (.slice A3 l3.length cap3) w4 := ⟨hB4.uS H3.out.2.2.2.1, uT_step hS.2 H3.out.1 hS4⟩
      have H4 := Lib.hid (And.intro hB4 H3.out.2.2.2.2)
      clear hS4 hR4 hr1 hr2 hB4 hS H3
      have hS := hz4
      refine hK _ _ hS ?_; clear hK K hz4
      (try simp only [Act.put, List.setIfInBounds_toArray, List.set_cons_succ, List.set_cons_zero])
      refine wpE_only (i := 30) (oi := { dst := some 58, op := Go.Op.call { callee := Go.Callee.value (Go.Operand.func 30), args := #[Go.Operand.tmp 49, Go.Operand.tmp 57], argTypes := #[64, 64] }, type := 4, pos := "law.go:95", after := #[{ on := 21, ground := Go.Ground.data }, { on := 29, ground := Go.Ground.data }, { on := 21, ground := Go.Ground.chain }, { on := 18, ground := Go.Ground.guard }], guard := some (18, false) }) rfl (by kernel_rfl) (by rfl) (fun K hK => ?_)
      go_simp; refine HST.out.mono ?_; rintro e w5 ⟨rfl, qq, rfl⟩
      have hB5 := H4.out.1.none_ ((Step.refl (fun _ => False) _ w4).drewN qq)
      have hz5 := uST_drewN hS qq
      have H5 := Lib.hid (And.intro hB5 H4.out.2)
      clear hS hB5 H4 HST
      have hS := hz5
      refine hK _ _ hS ?_; clear hK K hz5
      (try simp only [Act.put, List.setIfInBounds_toArray, List.set_cons_succ, List.set_cons_zero])
      refine wpE_take (i := 31) (oi := { dst := some 59, op := Go.Op.unOp Go.UnOp.not 4 (Go.Operand.tmp 58), type := 4, pos := "law.go:95", after := #[{ on := 30, ground := Go.Ground.data }, { on := 18, ground := Go.Ground.guard }], guard := some (18, false) }) (v := ?_) rfl (by kernel_rfl) (fun _ _ _ h => h) (Or.inl ⟨by rfl, fun W hW => ?_⟩) hS ?_
      rotate_left
      · obtain ⟨⟨hw0, hw1, hw2, hw3, hw4, hw5, hw6, hw7, hw8, hw9, hw10, hw11⟩, hz⟩ := hW; (try obtain ⟨hz1, hz2, hz3⟩ := hz); (try simp only [] at hw4 hw5 hw6 hw7 hw8 hw9 hw10 hw11); go_simp; (try go_bits); (try rw [if_pos (by omega)]); (try with_reducible rfl)
      (try simp only [Act.put, List.setIfInBounds_toArray, List.set_cons_succ, List.set_cons_zero])
      refine wpE_last (oi := { dst := some 60, op := Go.Op.pick (Go.Operand.tmp 46) (Go.Operand.const (Go.Value.bool true)) (Go.Operand.tmp 59), type := 4, pos := "law.go:95", after := #[{ on := 18, ground := Go.Ground.data }, { on := 31, ground := Go.Ground.data }], guard := none }) rfl (by kernel_rfl) (by kernel_rfl) (by rfl) (fun K hK => ?_)
      go_simp; (try go_bits); refine hK _ _ ?_; clear hK K
      go_wp2
      exact ⟨⟨j + 1, by omega, by go_num, _, _, _, _, _, H5.out.1, H5.out.2⟩, by simp [intOf]; omega⟩
    · obtain rfl : j = L.length := by omega
      obtain ⟨x0, x1, x2, x3, xl⟩ := hB.cells
      have HT := Lib.hid (two_Same hB.a.mm hB.d.mr)
      have HU := Lib.hid hB
      clear hB hmj HLo HL
      go_wp2_with fail
      ((with_reducible refine HT.out.mono ?_); rintro e w12 ⟨rfl, own12, hS12⟩)
      have HE := Lib.hid (HU.out.none_ hS12).upd
      clear hS12 HU HT
      go_wp2_with fail
      ((with_reducible refine (awake07 _).mono ?_); rintro e w13 ⟨rfl, hU13⟩)
      have HE2 := Lib.hid (HE.out.trans' hU13 (fun _ _ e => e))
      clear hU13 HE
      go_wp2
      go_ret
      exact ⟨rfl, HE2.out⟩
set_option maxHeartbeats 2000000 in
theorem plays_bad (w : World) (room : Int) (hr : room < 1 ∨ 64 < room) (v : Value) (cs : List (Int × Nat)) (hv : CellsAt w v cs) (hlen : cs.length ≤ 9223372036854775807) (hb : ∀ x ∈ cs, -9223372036854775808 ≤ x.1 ∧ x.1 ≤ 9223372036854775807 ∧ x.2 < 18446744073709551616)
    (A : Option Addr) (n cap : Nat) :
    Calls Try.prog 10 #[.int .i64 room, v, .slice A n cap] w fun e w' => e = .returned (.bool true) ∧ Upd (fun _ => False) w w' := by
  have HN := Lib.hid (law07_NewBad 0 (fun _ => 0) room hr w v cs hv hlen hb)
  obtain ⟨A0, cap0, rfl, _⟩ := hv
  clear hlen hb hr
  go_enter Try.func10, Try.ntmps10
  go_wp2_with fail
  ((with_reducible refine HN.out.mono ?_); rintro e w1 ⟨rp, p2, own1, rfl, hS1⟩)
  have hU := (hS1.upd.mono (fun i hi e => e) : Upd (fun _ => False) w w1).trans' ((Upd.refl (fun _ => False) w1).alloc (.cells #[.pointer none, .pointer none, .pointer (some ⟨rp, 0, none⟩), .pointer (some ⟨p2, 0, none⟩)] 31)) (fun _ _ e => e)
  have HU := Lib.hid hU
  clear hS1 hU HN
  go_wp2_with fail
  ((with_reducible refine (awake07 _).mono ?_); rintro e w13 ⟨rfl, hU13⟩)
  have HE2 := Lib.hid (HU.out.trans' hU13 (fun _ _ e => e))
  clear hU13 HU
  go_wp2
  go_ret
  exact ⟨rfl, HE2.out⟩
theorem plays_callsI (w : World) (room : Int) (v : Value) (cs : List (Int × Nat)) (hv : CellsAt w v cs) (hlen : cs.length ≤ maxLen) (hb : ∀ x ∈ cs, -9223372036854775808 ≤ x.1 ∧ x.1 ≤ 9223372036854775807 ∧ x.2 < 18446744073709551616)
    (A : Option Addr) (cap : Nat) (L : List OpR) (hL : OpsAt w (.slice A L.length cap) L) (hLb : ∀ o ∈ L, OpB o) (hLl : L.length * 64 ≤ 140737488351232) :
    Calls Try.prog 10 #[.int .i64 room, v, .slice A L.length cap] w fun e w' => e = .returned (.bool true) ∧ Upd (fun _ => False) w w' := by
  by_cases hr : 1 ≤ room ∧ room ≤ 64
  · obtain ⟨r, rfl⟩ := Int.eq_ofNat_of_zero_le (show 0 ≤ room by omega)
    exact plays_calls w r (by omega) v cs hv (by unfold maxLen at hlen; omega) hb A cap L hL hLb (by omega)
  · exact plays_bad w room (by omega) v cs hv (by unfold maxLen at hlen; omega) hb A _ cap
end Go.Proofs.Ytlgcplekcmocbaa
