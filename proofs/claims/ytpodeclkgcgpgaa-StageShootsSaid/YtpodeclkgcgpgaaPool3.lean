import Derived.Test.YtpodeclkgcgpgaaPool2
namespace Go.Proofs.Ytpodeclkgcgpgaa
set_option linter.unusedVariables false
open Go.RowKit
set_option maxRecDepth 100000

theorem info_int : (Try.prog.info? 3).map (fun i => (i.zero, i.size, i.bytes)) = some (some (.int .i64 0), 1, 8) := by kernel_rfl
theorem int_make (n : Nat) (hn : n ≤ 1024) (w : World) : (Instr.makeSlice 45 (.int .i64 (n : Int)) (.int .i64 (n : Int))).run Try.prog w = .ok (.slice (some ⟨w.heap.size, 0, none⟩) n n) (w.alloc (.cells (Array.replicate n (.int .i64 0)) 3)) := by
  obtain ⟨ie, hi, hz, hs, hb⟩ := info_parts info_int
  exact run_make1 w _ _ ie _ Try.underlying45 hi hz hs rfl _ _ n (by rw [hb]; omega) (by omega)
/-- who owns what at the start -/
def initO (n r : Nat) : List Int := List.replicate r (-1) ++ List.replicate (n - r) 0
theorem initO_len {n r : Nat} (h : r ≤ n) : (initO n r).length = n := by simp [initO]; omega
theorem initO_set {n k : Nat} (h : k < n) : (initO n k).set k (-1) = initO n (k + 1) := by
  unfold initO
  rw [List.set_append_right _ _ (by simp), show n - k = (n - (k + 1)) + 1 from by omega, List.replicate_succ]
  simp only [List.length_replicate, Nat.sub_self, List.set_cons_zero]
  rw [List.replicate_succ', List.append_assoc]; rfl
section
variable {own own' : Nat → Nat} {c pp rp qo qb n : Nat} {res harts : Int} {d : Bool} {ow bt : List Int} {w w' : World}
theorem PoolIn.setO (h : PoolIn own c w pp rp qo qb n res harts d ow bt) (k : Nat) (v : Int) : PoolIn own c (w.setCell ⟨qo, k, none⟩ (.int .i64 v)) pp rp qo qb n res harts d (ow.set k v) bt := by
  refine ⟨h.bp.far (h.bp.ne_ h.bo (by decide)) _, h.op, ?_, h.oo, fun hd => ⟨(h.bb hd).1.far ((h.bb hd).1.ne_ h.bo (by decide)) _, (h.bb hd).2⟩, h.b0, by simpa using h.lo, h.lb, h.hn⟩
  have e : ((ow.set k v).map (Value.int .i64)).toArray = (ow.map (.int .i64)).toArray.setIfInBounds k (.int .i64 v) := by simp [List.map_set]
  rw [e]; exact h.bo.set_ _ _
theorem PoolIn.stepO (h : PoolIn own c w pp rp qo qb n res harts d ow bt) (k : Nat) (v : Value) : Step (· = c) own w own (w.setCell ⟨qo, k, none⟩ v) := ⟨(Upd.refl _ _).setCell (.inl h.oo) _, fun _ _ => rfl⟩
theorem PoolIn.setB_ (h : PoolIn own c w pp rp qo qb n res harts true ow bt) (k : Nat) (v : Int) : PoolIn own c (w.setCell ⟨qb, k, none⟩ (.int .u64 v)) pp rp qo qb n res harts true ow (bt.set k v) := by
  obtain ⟨hb, ho⟩ := h.bb rfl
  refine ⟨h.bp.far (h.bp.ne_ hb (by decide)) _, h.op, h.bo.far (h.bo.ne_ hb (by decide)) _, h.oo, fun _ => ⟨?_, ho⟩, (fun e => by cases e), h.lo, by simpa using h.lb, h.hn⟩
  have e : ((bt.set k v).map (Value.int .u64)).toArray = (bt.map (.int .u64)).toArray.setIfInBounds k (.int .u64 v) := by simp [List.map_set]
  rw [e]; exact hb.set_ _ _
theorem PoolIn.stepB (h : PoolIn own c w pp rp qo qb n res harts true ow bt) (k : Nat) (v : Value) : Step (· = c) own w own (w.setCell ⟨qb, k, none⟩ v) := ⟨(Upd.refl _ _).setCell (.inl (h.bb rfl).2) _, fun _ _ => rfl⟩
theorem pool_New {cr base : Nat} {m : Nat → Int} (hR : MemAt ramK own cr w rp base n m) (r h : Nat) (hr : r ≤ n) (h1 : 1 ≤ h) (h8 : h ≤ 8) (c : Nat) :
    Calls Try.prog 19 #[.pointer (some ⟨rp, 0, none⟩), .int .i64 (r : Int), .int .i64 (h : Int)] w fun e w' => ∃ pp own', e = .returned (.tuple #[.pointer (some ⟨pp, 0, none⟩), .int .i64 0]) ∧
      Step (fun _ => False) own w own' w' ∧ PoolAt own' c w' pp rp n r h (initO n r) (List.replicate n 0) := by
  have hn : n ≤ 1024 := hR.sizes.2.2
  have HF := Lib.hid (ram_Frames hR)
  clear hR
  go_enter Try.func19, Try.ntmps19
  go_wp2_with fail
  refine HF.out.mono ?_; rintro e w' ⟨rfl, rfl⟩
  go_wp2_with fail
  refine HF.out.mono ?_; rintro e w' ⟨rfl, rfl⟩
  go_wp2_with ((with_reducible show wpList _ _ _ ((⟨some 31, _, _, _, _, _⟩ : Oper) :: _) _ _); refine wpList_make rfl _ _ _ rfl _ _ rfl rfl (int_make n hn _) ?_)
  have hst : Step (fun _ => False) own w (ext own w c) ((w.alloc (.cells (Array.replicate n (.int .i64 0)) 3)).alloc (.cells (poolC rp w.heap.size 0 n r h false) 163)) := ⟨((Upd.refl _ _).alloc _).alloc _, fun b hb => ext_old _ _ _ hb⟩
  have hP0 : PoolIn (ext own w c) c ((w.alloc (.cells (Array.replicate n (.int .i64 0)) 3)).alloc (.cells (poolC rp w.heap.size 0 n r h false) 163)) (w.heap.size + 1) rp w.heap.size 0 n r h false (initO n 0) (List.replicate n 0) := by
    have hb1 := Blk.new w 3 (Array.replicate n (.int .i64 0))
    have hb2 := Blk.new (w.alloc (.cells (Array.replicate n (.int .i64 0)) 3)) 163 (poolC rp w.heap.size 0 n r h false)
    rw [World.size_alloc] at hb2
    refine ⟨hb2, ext_new _ _ _ (by omega), ?_, ext_new _ _ _ (Nat.le_refl _), fun e => (by cases e), fun _ => rfl, initO_len (by omega), by simp, hn⟩
    have e : ((initO n 0).map (Value.int .i64)).toArray = Array.replicate n (Value.int .i64 0) := by simp [initO]
    rw [e]; exact hb1.alloc _
  have H0 := Lib.hid (And.intro hst hP0)
  clear hst hP0 HF
  go_loopw [35] (fun i wr => ∃ k : Nat, k ≤ r ∧ i = .int .i64 (k : Int) ∧ Hid (Step (fun _ => False) own w (ext own w c) wr ∧ PoolIn (ext own w c) c wr (w.heap.size + 1) rp w.heap.size 0 n r h false (initO n k) (List.replicate n 0))) (fun i _ => r - (intOf i).toNat)
  case atStart => exact ⟨0, by omega, rfl, H0.out⟩
  case round =>
    obtain ⟨k, hk, rfl, HR⟩ := hrel
    by_cases hlt : k < r
    · have h3 := HR.out.2.c3
      have hz := HR.out.2.bo.frozen k
      have hc := HR.out.2.cellO k
      rw [List.getElem?_eq_getElem (by rw [HR.out.2.lo]; omega), Option.map_some] at hc
      go_wp2
      refine ⟨⟨k + 1, by omega, by go_num, ⟨HR.out.1.upd.setCell (p := ⟨w.heap.size, k, none⟩) (.inr (Nat.le_refl _)) _, HR.out.1.old⟩, by rw [← initO_set (by omega)]; exact HR.out.2.setO k (-1)⟩, by simp [intOf]; omega⟩
    · obtain rfl : k = r := by omega
      go_wp2
      go_ret2
      exact ⟨_, _, rfl, HR.out.1, _, _, _, HR.out.2⟩

/-- how many frames an owner has -/
def countP (ow : List Int) (o : Int) : Nat := (ow.filter (· == o)).length
theorem countP_take (ow : List Int) (o : Int) {k : Nat} {v : Int} (h : ow[k]? = some v) : countP (ow.take (k + 1)) o = countP (ow.take k) o + if v = o then 1 else 0 := by
  obtain ⟨hk, rfl⟩ := List.getElem?_eq_some_iff.1 h
  unfold countP
  rw [List.take_succ_eq_append_getElem hk, List.filter_append, List.length_append]
  congr 1
  simp only [List.filter_cons, List.filter_nil]
  split <;> simp_all
theorem pool_Count (h : PoolAt own c w pp rp n res harts ow bt) (o : Int) :
    Calls Try.prog 27 #[.pointer (some ⟨pp, 0, none⟩), .int .i64 o] w fun e w' => e = .returned (.int .i64 (countP ow o : Int)) ∧ w = w' := by
  obtain ⟨qo, qb, d, h⟩ := h
  have h3 := h.c3
  have hlo := h.lo
  have hn := h.hn
  have HC := Lib.hid h.cellO
  clear h
  go_enter Try.func27, Try.ntmps27
  go_wp2
  go_loop [5, 13] (fun s i => ∃ k : Nat, k ≤ n ∧ i = .int .i64 (k : Int) ∧ s = .int .i64 (countP (ow.take k) o : Int)) (fun _ i => n - (intOf i).toNat)
  case atStart => exact ⟨0, by omega, rfl, by simp [countP]⟩
  case round =>
    obtain ⟨k, hk, rfl, rfl⟩ := hrel
    by_cases hlt : k < n
    · obtain ⟨v, hv⟩ : ∃ v, ow[k]? = some v := ⟨_, List.getElem?_eq_getElem (by omega)⟩
      have hc := HC.out k
      rw [hv, Option.map_some] at hc
      have HT := Lib.hid (countP_take ow o hv)
      have hle : countP (ow.take k) o ≤ 1024 := Nat.le_trans (List.length_filter_le ..) (by simp; omega)
      clear hv
      generalize countP (ow.take k) o = cn at *
      by_cases he : v = o
      · subst he
        go_wp2
        go_round
        case rel => exact ⟨k + 1, by omega, by go_num, by rw [HT.out, if_pos rfl]; rfl⟩
        case measure => simp [intOf]; omega
      · go_wp2
        go_round
        case rel => exact ⟨k + 1, by omega, by go_num, by rw [HT.out, if_neg he]; rfl⟩
        case measure => simp [intOf]; omega
    · obtain rfl : k = n := by omega
      rw [List.take_of_length_le (by omega)]
      go_wp2
      go_ret
      exact ⟨rfl, rfl⟩
end
end Go.Proofs.Ytpodeclkgcgpgaa
