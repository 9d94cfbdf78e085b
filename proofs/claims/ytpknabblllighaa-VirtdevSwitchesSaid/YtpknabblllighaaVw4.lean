import Derived.Test.YtpknabblllighaaVw3
/- Both switches: any frame from any port; CopyBytes; SameInts. -/
namespace Go.Proofs.Ytpknabblllighaa
set_option linter.unusedVariables false
set_option linter.unusedSimpArgs false
open Go.RowKit Go.Maps
set_option maxRecDepth 100000
def okF (k : Nat) (port : Int) (bs : List Int) : Prop := 0 ≤ port ∧ port < (k : Int) ∧ 14 ≤ bs.length
instance (k : Nat) (port : Int) (bs : List Int) : Decidable (okF k port bs) := by unfold okF; infer_instance
def frF (bs : List Int) : List Int := (bs.drop 6).take 6
def f0F (bs : List Int) : Int := (frF bs).head?.getD 0
def swX (sw : Sw) (k : Nat) (port : Int) (bs : List Int) : Sw := if okF k port bs then learnS sw port.toNat (frF bs) (f0F bs) else sw
def lX (l : List Mac) (k : Nat) (port : Int) (bs : List Int) : List Mac := if okF k port bs then learnW l port.toNat (frF bs) (f0F bs) else l
def outX (sw : Sw) (k : Nat) (port : Int) (bs : List Int) : List Nat := if okF k port bs then outS k port.toNat ((swX sw k port bs).kn (bs.take 6)) else []
theorem frF_len {bs : List Int} (h : 14 ≤ bs.length) : (frF bs).length = 6 := by unfold frF; rw [List.length_take, List.length_drop]; omega
theorem f0F_head {bs : List Int} (h : 14 ≤ bs.length) : (frF bs).head? = some (f0F bs) := by
  have := frF_len h
  unfold f0F
  cases hf : frF bs with
  | nil => rw [hf] at this; cases this
  | cons a l => rfl
theorem WS.X {k : Nat} {sw : Sw} {l : List Mac} (h : WS k sw l) (port : Int) (bs : List Int) : WS k (swX sw k port bs) (lX l k port bs) := by
  unfold swX lX
  by_cases hk : okF k port bs
  · rw [if_pos hk, if_pos hk]
    exact h.learn _ (by have := hk.1; have := hk.2.1; omega) _ (frF_len hk.2.2) _ (f0F_head hk.2.2)
  · rw [if_neg hk, if_neg hk]; exact h
theorem outX_len (sw : Sw) (k : Nat) (port : Int) (bs : List Int) : (outX sw k port bs).length ≤ k := by
  unfold outX
  split
  · exact outS_len _ _ _
  · simp
theorem WS.bd {k : Nat} {sw : Sw} {l : List Mac} (h : WS k sw l) (hk : k ≤ 8) : ∀ a q, sw.kn a = some q → q < 1000 := by
  intro a q hq
  rw [h.get] at hq
  unfold findW at hq
  obtain ⟨e, he, rfl⟩ := Option.map_eq_some_iff.1 hq
  have := h.port e (List.mem_of_find?_eq_some he)
  omega
theorem sendX {own : Nat → Nat} {c : Nat} {w : World} {p k : Nat} {sw : Sw} {l : List Mac} (h : SwAt own c w p k sw) (hws : WS k sw l) (hk : k ≤ 8) (port : Int) (h0 : -9223372036854775808 ≤ port) (h1 : port ≤ 9223372036854775807) (A : Option Addr) (cap : Nat) (bs : List Int)
    (hr : Reads w w.heap.size 1 A bs.length (u8L bs)) (hb8 : ∀ b ∈ bs, 0 ≤ b ∧ b < 256) (hcap : bs.length ≤ cap) (hcm : cap ≤ 9223372036854775807) (d : Nat) (hd : d ≠ c) :
    Calls Try.prog 9 #[.pointer (some ⟨p, 0, none⟩), .int .i64 port, .slice A bs.length cap] w fun e w' => ∃ v own', e = .returned v ∧ Step (· = c) own w own' w' ∧ SwAt own' c w' p k (swX sw k port bs) ∧
      Rw 3 1 own' d w' v (outX sw k port bs).length (psC (outX sw k port bs)) := by
  by_cases hok : okF k port bs
  · obtain ⟨q, rfl⟩ := Int.eq_ofNat_of_zero_le hok.1
    have hS := sw_Send h hk q (by have := hok.2.1; omega) A bs.length cap bs hr hb8 hok.2.2 hcap hcm (hws.bd hk) (by rw [hws.len]; have := hws.most; omega) (f0F bs) _ _ rfl rfl (f0F_head hok.2.2) d hd
    have e1 : swX sw k (q : Int) bs = learnS sw q (frF bs) (f0F bs) := by unfold swX; rw [if_pos hok]; rfl
    have e2 : outX sw k (q : Int) bs = outS k q ((learnS sw q (frF bs) (f0F bs)).kn (bs.take 6)) := by unfold outX; rw [if_pos hok, e1]; rfl
    rw [e1, e2]
    exact hS
  · have e1 : swX sw k port bs = sw := if_neg hok
    have e2 : outX sw k port bs = [] := if_neg hok
    rw [e1, e2]
    refine (sw_Send_no h hk port h0 h1 A bs.length cap (by omega) hok).mono ?_
    rintro e w' ⟨rfl, rfl⟩
    exact ⟨_, own, rfl, Step.refl _ _ _, h, Rw.nil _ _ _ _ _⟩
theorem refX {own : Nat → Nat} {c d : Nat} {w : World} {p k : Nat} {sw : Sw} {l : List Mac} (h : WAt own c d w p k l) (hcd : c ≠ d) (hws : WS k sw l) (hk : k ≤ 8) (port : Int) (A : Option Addr) (cap : Nat) (bs : List Int)
    (hr : Reads w w.heap.size 1 A bs.length (u8L bs)) (hb8 : ∀ b ∈ bs, 0 ≤ b ∧ b < 256) (hcap : bs.length ≤ cap) (hcm : cap ≤ 9223372036854775807) (dr : Nat) (hrc : dr ≠ c) (hrd : dr ≠ d) :
    Calls Try.prog 11 #[.pointer (some ⟨p, 0, none⟩), .int .i64 port, .slice A bs.length cap] w fun e w' => ∃ v own', e = .returned v ∧ Step (fun x => x = c ∨ x = d) own w own' w' ∧ WAt own' c d w' p k (lX l k port bs) ∧
      Rw 3 1 own' dr w' v (outX sw k port bs).length (psC (outX sw k port bs)) := by
  by_cases hok : okF k port bs
  · have hwx := hws.X port bs
    obtain ⟨q, rfl⟩ := Int.eq_ofNat_of_zero_le hok.1
    have hS := ref_Send h hcd hk hws.six hws.port hws.most q (by have := hok.2.1; omega) A bs.length cap bs hr hb8 hok.2.2 hcap hcm (f0F bs) _ _ rfl rfl (f0F_head hok.2.2) dr hrc hrd
    have e1 : lX l k (q : Int) bs = learnW l q (frF bs) (f0F bs) := by unfold lX; rw [if_pos hok]; rfl
    have e2 : outX sw k (q : Int) bs = outS k q (findW (learnW l q (frF bs) (f0F bs)) (bs.take 6)) := by
      unfold outX; rw [if_pos hok, hwx.get, e1]; rfl
    rw [e1, e2]
    exact hS
  · have e1 : lX l k port bs = l := if_neg hok
    have e2 : outX sw k port bs = [] := if_neg hok
    rw [e1, e2]
    obtain ⟨v, hb, ho, hrw⟩ := h
    refine (ref_Send_no hb hk port A bs.length cap hok).mono ?_
    rintro e w' ⟨rfl, rfl⟩
    exact ⟨_, own, rfl, Step.refl _ _ _, ⟨v, hb, ho, hrw⟩, Rw.nil _ _ _ _ _⟩
theorem law_CopyBytes (own : Nat → Nat) (d : Nat) (w : World) (A : Option Addr) (n cap : Nat) (xs : List Value) (hr : Reads w w.heap.size 1 A n xs) (h1 : ∀ u ∈ xs, u.oneCell' = true) (hn : n ≤ 140737488351232) :
    Calls Try.prog 10 #[.slice A n cap] w fun e w' => ∃ v own', e = .returned v ∧ Step (fun _ => False) own w own' w' ∧ Rw 5 1 own' d w' v n xs := by
  obtain ⟨i, hi, hz, hs, hby⟩ := info_parts info_u8v
  have HI := Lib.hid (And.intro hi (And.intro hz (And.intro hs hby)))
  have HRD := Lib.hid hr
  clear hi hz hs hby hr
  go_enter Try.func10, Try.ntmps10
  go_wp2_with ((with_reducible show wpList _ _ _ ((⟨some 4, _, _, _, _, _⟩ : Oper) :: _) _ _); refine wpList_append_rw rfl (.const (.slice none 0 0)) (.tmp 3) _ rfl 5 i _ 1 1 Try.underlying34 HI.out.1 HI.out.2.1 HI.out.2.2.1 HI.out.2.2.2 rfl (by omega) (own := up1 own w) (d := 0) (.slice none 0 0) 0 [] rfl (Rw.nil _ _ _ _ _) w.heap.size A n cap xs rfl HRD.out h1 (by unfold maxLen; omega) (by omega) ?_)
  intro v2 w5 hst5 hrow5
  have H5 := Lib.hid (And.intro (up1_upd hst5) (up1_row hst5 hrow5 d))
  obtain ⟨A2, cap2, rfl, _, hform⟩ := hrow5.form
  clear hst5 hrow5 hform HRD HI
  go_wp2
  go_ret
  exact ⟨_, ext own w d, rfl, ⟨H5.out.1, fun b hb => ext_old _ _ _ hb⟩, H5.out.2⟩
theorem Rw.cap {e : TypeId} {size d n : Nat} {own : Nat → Nat} {w : World} {A : Option Addr} {cap m : Nat} {xs : List Value} (h : Rw e size own d w (.slice A m cap) n xs) : cap ≤ maxLen := by
  rcases h.2 with ⟨e1, _⟩ | ⟨g, o, cap', cur, hv, _, _, _, hcm, _⟩
  · cases e1; unfold maxLen; omega
  · cases hv; exact hcm
set_option maxHeartbeats 1000000 in
theorem same_intsV {w : World} {A B : Option Addr} {a b ca cb : Nat} {l : List Int} (hl : l.length ≤ 4194304) (h1 : Reads w a 1 A l.length (l.map (.int .i64))) (h2 : Reads w b 1 B l.length (l.map (.int .i64))) :
    Calls Try.prog 8 #[.slice A l.length ca, .slice B l.length cb] w fun e w' => e = .returned (.bool true) ∧ ∃ k, w' = w.drewN k := by
  have H := Lib.hid (And.intro h1 h2)
  clear h1 h2
  go_enter Try.func8, Try.ntmps8
  go_wp2
  go_loopw [5] (fun i wr => ∃ (k : Nat), k ≤ l.length ∧ i = .int .i64 (k : Int) ∧ ∃ q, wr = w.drewN q) (fun i _ => l.length - (intOf i).toNat)
  case atStart => exact ⟨0, by omega, rfl, 0, rfl⟩
  case round =>
    obtain ⟨k, hk, rfl, q, rfl⟩ := hrel
    by_cases hlt : k < l.length
    · obtain ⟨b1, o1, rfl, _, hc1⟩ := H.out.1.first (by omega) (by omega)
      obtain ⟨b2, o2, rfl, _, hc2⟩ := H.out.2.first (by omega) (by omega)
      have hget : (l.map (Value.int .i64))[k]? = some (.int .i64 l[k]) := by rw [List.getElem?_map, List.getElem?_eq_getElem hlt]; rfl
      have h3 : w.cell? ⟨b1, o1 + k, none⟩ = some (.int .i64 l[k]) := hc1 k _ hget
      have h4 : w.cell? ⟨b2, o2 + k, none⟩ = some (.int .i64 l[k]) := hc2 k _ hget
      have hlt' : (k : Int) < (l.length : Int) := by omega
      generalize l[k] = x at *
      clear hc1 hc2 hget
      go_wp2_with fail
      refine wpE_region (S := fun (W' : World) => W' = (w.drewN q).drew) (s := 8) (by kernel_rfl) ?_
      have hS : (fun (W' : World) => W' = (w.drewN q).drew) _ := rfl
      refine wpE_take (i := 0) (oi := { dst := some 17, op := Go.Op.move (Go.Operand.tmp 0), type := 22, pos := "law.go:52", after := #[], guard := none }) (v := ?_) rfl (by kernel_rfl) (fun _ _ _ h => h) (Or.inl ⟨by rfl, fun W hW => ?_⟩) hS ?_
      rotate_left
      · (obtain rfl : W = (w.drewN q).drew := hW); go_simp; (try go_bits); (try rw [if_pos (by omega)]); (try with_reducible rfl)
      (try simp only [Act.put, List.setIfInBounds_toArray, List.set_cons_succ, List.set_cons_zero])
      refine wpE_take (i := 1) (oi := { dst := some 18, op := Go.Op.move (Go.Operand.tmp 5), type := 3, pos := "law.go:52", after := #[], guard := none }) (v := ?_) rfl (by kernel_rfl) (fun _ _ _ h => h) (Or.inl ⟨by rfl, fun W hW => ?_⟩) hS ?_
      rotate_left
      · (obtain rfl : W = (w.drewN q).drew := hW); go_simp; (try go_bits); (try rw [if_pos (by omega)]); (try with_reducible rfl)
      (try simp only [Act.put, List.setIfInBounds_toArray, List.set_cons_succ, List.set_cons_zero])
      refine wpE_take (i := 2) (oi := { dst := some 19, op := Go.Op.indexAddr 22 (Go.Operand.tmp 17) (Go.Operand.tmp 18), type := 0, pos := "law.go:52", after := #[{ on := 0, ground := Go.Ground.data }, { on := 1, ground := Go.Ground.data }], guard := none }) (v := ?_) rfl (by kernel_rfl) (fun _ _ _ h => h) (Or.inl ⟨by rfl, fun W hW => ?_⟩) hS ?_
      rotate_left
      · (obtain rfl : W = (w.drewN q).drew := hW); go_simp; (try go_bits); (try rw [if_pos (by omega)]); (try with_reducible rfl)
      (try simp only [Act.put, List.setIfInBounds_toArray, List.set_cons_succ, List.set_cons_zero])
      refine wpE_take (i := 3) (oi := { dst := some 20, op := Go.Op.load 3 (Go.Operand.tmp 19), type := 3, pos := "law.go:52", after := #[{ on := 2, ground := Go.Ground.data }], guard := none }) (v := ?_) rfl (by kernel_rfl) (fun _ _ _ h => h) (Or.inl ⟨by rfl, fun W hW => ?_⟩) hS ?_
      rotate_left
      · (obtain rfl : W = (w.drewN q).drew := hW); go_simp; (try go_bits); (try rw [if_pos (by omega)]); (try with_reducible rfl)
      (try simp only [Act.put, List.setIfInBounds_toArray, List.set_cons_succ, List.set_cons_zero])
      refine wpE_take (i := 4) (oi := { dst := some 21, op := Go.Op.move (Go.Operand.tmp 1), type := 22, pos := "law.go:52", after := #[], guard := none }) (v := ?_) rfl (by kernel_rfl) (fun _ _ _ h => h) (Or.inl ⟨by rfl, fun W hW => ?_⟩) hS ?_
      rotate_left
      · (obtain rfl : W = (w.drewN q).drew := hW); go_simp; (try go_bits); (try rw [if_pos (by omega)]); (try with_reducible rfl)
      (try simp only [Act.put, List.setIfInBounds_toArray, List.set_cons_succ, List.set_cons_zero])
      refine wpE_take (i := 5) (oi := { dst := some 22, op := Go.Op.move (Go.Operand.tmp 5), type := 3, pos := "law.go:52", after := #[], guard := none }) (v := ?_) rfl (by kernel_rfl) (fun _ _ _ h => h) (Or.inl ⟨by rfl, fun W hW => ?_⟩) hS ?_
      rotate_left
      · (obtain rfl : W = (w.drewN q).drew := hW); go_simp; (try go_bits); (try rw [if_pos (by omega)]); (try with_reducible rfl)
      (try simp only [Act.put, List.setIfInBounds_toArray, List.set_cons_succ, List.set_cons_zero])
      refine wpE_take (i := 6) (oi := { dst := some 23, op := Go.Op.indexAddr 22 (Go.Operand.tmp 21) (Go.Operand.tmp 22), type := 0, pos := "law.go:52", after := #[{ on := 4, ground := Go.Ground.data }, { on := 5, ground := Go.Ground.data }], guard := none }) (v := ?_) rfl (by kernel_rfl) (fun _ _ _ h => h) (Or.inl ⟨by rfl, fun W hW => ?_⟩) hS ?_
      rotate_left
      · (obtain rfl : W = (w.drewN q).drew := hW); go_simp; (try go_bits); (try rw [if_pos (by omega)]); (try with_reducible rfl)
      (try simp only [Act.put, List.setIfInBounds_toArray, List.set_cons_succ, List.set_cons_zero])
      refine wpE_take (i := 7) (oi := { dst := some 24, op := Go.Op.load 3 (Go.Operand.tmp 23), type := 3, pos := "law.go:52", after := #[{ on := 6, ground := Go.Ground.data }], guard := none }) (v := ?_) rfl (by kernel_rfl) (fun _ _ _ h => h) (Or.inl ⟨by rfl, fun W hW => ?_⟩) hS ?_
      rotate_left
      · (obtain rfl : W = (w.drewN q).drew := hW); go_simp; (try go_bits); (try rw [if_pos (by omega)]); (try with_reducible rfl)
      (try simp only [Act.put, List.setIfInBounds_toArray, List.set_cons_succ, List.set_cons_zero])
      refine wpE_last (oi := { dst := some 25, op := Go.Op.binOp Go.BinOp.neq 3 (Go.Operand.tmp 20) (Go.Operand.tmp 24) 3, type := 4, pos := "law.go:52", after := #[{ on := 3, ground := Go.Ground.data }, { on := 7, ground := Go.Ground.data }], guard := none }) rfl (by kernel_rfl) (by kernel_rfl) (by rfl) (fun K hK => ?_)
      go_simp; (try go_bits); refine hK _ _ ?_; clear hK K
      go_wp2
      exact ⟨⟨k + 1, by omega, by go_num, q + 1, rfl⟩, by simp [intOf]; omega⟩
    · obtain rfl : k = l.length := by omega
      go_wp2
      go_ret
      exact ⟨rfl, q, rfl⟩
theorem same_ps {w : World} {A B : Option Addr} {a b ca cb : Nat} {l : List Nat} (hl : l.length ≤ 8) (h1 : Reads w a 1 A l.length (psC l)) (h2 : Reads w b 1 B l.length (psC l)) :
    Calls Try.prog 8 #[.slice A l.length ca, .slice B l.length cb] w fun e w' => e = .returned (.bool true) ∧ ∃ k, w' = w.drewN k := by
  have e : psC l = (l.map (fun (p : Nat) => (p : Int))).map (.int .i64) := by unfold psC; rw [List.map_map]; rfl
  rw [e] at h1 h2
  have := same_intsV (w := w) (A := A) (B := B) (a := a) (b := b) (ca := ca) (cb := cb) (l := l.map (fun (p : Nat) => (p : Int))) (by rw [List.length_map]; omega)
  rw [List.length_map] at this
  exact this h1 h2
end Go.Proofs.Ytpknabblllighaa
