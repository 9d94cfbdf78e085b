import Derived.Test.YtpodeclkgcgpgaaShoot2
import Derived.Test.YtpodeclkgcgpgaaSp8
/- StageForgets' walk. -/
namespace Go.Proofs.Ytpodeclkgcgpgaa
set_option linter.unusedVariables false
set_option linter.unusedSimpArgs false
open Go.RowKit
set_option maxRecDepth 100000

theorem info_tlbp : (Try.prog.info? 106).map (fun i => (i.zero, i.size, i.bytes)) = some (some (.pointer none), 1, 8) := by kernel_rfl
def ptrs (ps : List Nat) : List Value := ps.map (fun p => Value.pointer (some ⟨p, 0, none⟩))
theorem ptrs_len (ps : List Nat) : (ptrs ps).length = ps.length := by simp [ptrs]
theorem ptrs_snoc (ps : List Nat) (p : Nat) : ptrs (ps ++ [p]) = ptrs ps ++ [.pointer (some ⟨p, 0, none⟩)] := by simp [ptrs]
theorem ptrs_at (ps : List Nat) (j p : Nat) (h : ps[j]? = some p) : (ptrs ps)[j]? = some (.pointer (some ⟨p, 0, none⟩)) := by simp [ptrs, h]
/-- the law's state: the shootdowns at sp, the TLBs at ps, their lists L -/
structure FS (w : World) (own' : Nat → Nat) (wr : World) (sp : Nat) (bs : List Nat) (v : Value) (ps : List Nat) (L : Nat → List Tr) : Prop where
  st : Step (fun x => x ≠ 0) (fun _ => 0) w own' wr
  sh : ShAt own' 30 wr sp bs
  row : Rw 106 1 own' 20 wr v ps.length (ptrs ps)
  tl : ∀ j p, ps[j]? = some p → TlbAt own' (100 + 2 * j) (101 + 2 * j) wr p 16 (L j)
section
variable {w : World} {own' own2 : Nat → Nat} {wr w2 : World} {sp : Nat} {bs bs2 : List Nat} {v : Value} {ps : List Nat} {L : Nat → List Tr}
theorem FS.step {C : Nat → Prop} (h : FS w own' wr sp bs v ps L) (hS : Step C own' wr own2 w2) (hc : ∀ x, C x → x < 20 ∧ x ≠ 0) : FS w own2 w2 sp bs v ps L :=
  ⟨h.st.trans (hS.mono (fun x hx => (hc x hx).2)), h.sh.step hS (fun e => by have := hc _ e; omega), h.row.step hS (fun e => by have := hc _ e; omega), fun j p hj => (h.tl j p hj).step hS (fun e => by have := hc _ e; omega) (fun e => by have := hc _ e; omega)⟩
/-- one TLB more -/
theorem FS.push {own3 : Nat → Nat} {w3 : World} {v3 : Value} {pk : Nat} (h : FS w own' wr sp bs v ps (fun _ => [])) (hS : Step (· = 20) own' wr own3 w3) (hR : Rw 106 1 own3 20 w3 v3 (ps.length + 1) (ptrs ps ++ [.pointer (some ⟨pk, 0, none⟩)])) (hT : TlbAt own' (100 + 2 * ps.length) (101 + 2 * ps.length) wr pk 16 []) : FS w own3 w3 sp bs v3 (ps ++ [pk]) (fun _ => []) := by
  refine ⟨h.st.trans (hS.mono (fun x hx => by omega)), h.sh.step hS (by omega), by rw [List.length_append, ptrs_snoc]; exact hR, fun j p hj => ?_⟩
  rcases Nat.lt_or_ge j ps.length with hl | hl
  · rw [List.getElem?_append_left hl] at hj
    exact (h.tl j p hj).step hS (by omega) (by omega)
  · have hjl := (List.getElem?_eq_some_iff.1 hj).1
    rw [List.length_append] at hjl
    obtain rfl : j = ps.length := by simp at hjl; omega
    rw [List.getElem?_append_right (Nat.le_refl _), Nat.sub_self] at hj
    cases hj
    exact hT.step hS (by omega) (by omega)
def updL (L : Nat → List Tr) (r : Nat) (l : List Tr) : Nat → List Tr := fun j => if j = r then l else L j
/-- one TLB has turned -/
theorem FS.one {C : Nat → Prop} (h : FS w own' wr sp bs v ps L) (r p : Nat) (hr : ps[r]? = some p) (hS : Step C own' wr own2 w2) (hc : ∀ x, C x → x = 30 ∨ x = 100 + 2 * r ∨ x = 101 + 2 * r) (hsh : ShAt own2 30 w2 sp bs2) {l : List Tr} (hT : TlbAt own2 (100 + 2 * r) (101 + 2 * r) w2 p 16 l) : FS w own2 w2 sp bs2 v ps (updL L r l) := by
  refine ⟨h.st.trans (hS.mono (fun x hx => by have := hc x hx; omega)), hsh, h.row.step hS (fun e => by have := hc _ e; omega), fun j q hj => ?_⟩
  unfold updL
  by_cases e : j = r
  · subst e
    rw [hr] at hj; cases hj
    rw [if_pos rfl]; exact hT
  · rw [if_neg e]
    exact (h.tl j q hj).step hS (fun e => by have := hc _ e; omega) (fun e => by have := hc _ e; omega)
end
/-- each hart is due v, or has nothing of v -/
def Clean (v : Nat) (bs : List Nat) (L : Nat → List Tr) : Prop := ∀ j b, bs[j]? = some b → b = 2 ^ v ∨ (b = 0 ∧ ∀ t ∈ L j, t.v ≠ (v : Int))
theorem due_pow (v : Nat) (h : 1 ≤ v ∧ v ≤ 15) : dueL (2 ^ v) = [(v : Int)] := by
  have : ∀ v : Nat, v < 16 → 1 ≤ v → dueL (2 ^ v) = [(v : Int)] := by decide +kernel
  exact this v (by omega) h.1
theorem due_zero : dueL 0 = [] := by decide +kernel
/-- a Serve keeps it, and the hart is due nothing more -/
theorem Clean.serve {v : Nat} {bs : List Nat} {L : Nat → List Tr} (h : Clean v bs L) (hv : 1 ≤ v ∧ v ≤ 15) (r b : Nat) (hb : bs[r]? = some b) :
    Clean v (servB bs r b) (updL L r (flushAll (L r) (dueL b))) ∧ (servB bs r b).length = bs.length ∧ (servB bs r b)[r]? = some 0 ∧ ∀ j : Nat, bs[j]? = some 0 → (servB bs r b)[j]? = some 0 := by
  have hr := (List.getElem?_eq_some_iff.1 hb).1
  rcases h r b hb with rfl | ⟨rfl, hn⟩
  · have hs : servB bs r (2 ^ v) = bs.set r 0 := by unfold servB; rw [due_pow v hv]; rfl
    rw [hs, due_pow v hv]
    refine ⟨fun j c hj => ?_, by rw [List.length_set], by rw [List.getElem?_set, if_pos rfl, if_pos hr], fun j hj => ?_⟩
    · unfold updL
      rw [List.getElem?_set] at hj
      by_cases e : j = r
      · subst e
        rw [if_pos rfl, if_pos hr] at hj
        obtain rfl : 0 = c := Option.some.inj hj
        rw [if_pos rfl]
        refine Or.inr ⟨rfl, fun t ht => ?_⟩
        have : t ∈ flushT (L j) (v : Int) := ht
        unfold flushT at this
        rw [List.mem_filter] at this
        simpa using this.2
      · rw [if_neg (fun h => e h.symm)] at hj
        rw [if_neg e]; exact h j c hj
    · rw [List.getElem?_set]
      by_cases e : r = j
      · rw [if_pos e, if_pos hr]
      · rw [if_neg e]; exact hj
  · have hs : servB bs r 0 = bs := by unfold servB; rw [due_zero]; rfl
    rw [hs, due_zero]
    refine ⟨fun j c hj => ?_, rfl, hb, fun j hj => hj⟩
    unfold updL
    by_cases e : j = r
    · subst e
      rw [if_pos rfl]
      rw [hb] at hj; cases hj
      exact Or.inr ⟨rfl, hn⟩
    · rw [if_neg e]; exact h j c hj
def Op4 (xs : List Value) (i : Nat) (k a b v : Int) : Prop := xs[i * 4]? = some (.int .i64 k) ∧ xs[i * 4 + 1]? = some (.int .i64 a) ∧ xs[i * 4 + 2]? = some (.int .i64 b) ∧ xs[i * 4 + 3]? = some (.int .u64 v)
set_option maxHeartbeats 1500000 in
theorem forgets_calls (harts vmid : Int) (hh : wfI harts) (hvm : wfI vmid) (A : Option Addr) (cap m : Nat) (xs : List Value) (B : Option Addr) (capB : Nat) (os : List Int) (w : World)
    (hrd : Reads w w.heap.size 4 A m xs) (hm : m ≤ 9223372036854775807) (hx : ∀ i, i < m → ∃ k a b v, Op4 xs i k a b v ∧ wfI a)
    (hrb : Reads w w.heap.size 1 B os.length (os.map (.int .i64))) (hmb : os.length ≤ 1000000000000000000) (hob : ∀ z ∈ os, wfI z) :
    Calls Try.prog 14 #[.int .i64 harts, .slice A m cap, .int .i64 vmid, .slice B os.length capB] w fun e w' => e = .returned (.bool true) ∧ Upd (fun _ => False) w w' := by
  have HX := Lib.hid (And.intro hrd hx)
  have HXB := Lib.hid (And.intro hrb hob)
  obtain ⟨hh0, hh1⟩ := hh
  obtain ⟨hv0, hv1⟩ := hvm
  have HPh := Lib.hid (fun w => place_calls harts 8 w hh0 hh1 (by omega) (by omega))
  obtain ⟨k0, hk0⟩ : ∃ r : Nat, harts % 8 = (r : Int) := ⟨(harts % 8).toNat, by omega⟩
  have hk8 : k0 < 8 := by omega
  rw [hk0] at HPh
  have HPv := Lib.hid (fun w => place_calls vmid 15 w hv0 hv1 (by omega) (by omega))
  obtain ⟨v0, hv0'⟩ : ∃ r : Nat, vmid % 15 = (r : Int) := ⟨(vmid % 15).toNat, by omega⟩
  have hv15 : v0 < 15 := by omega
  rw [hv0'] at HPv
  clear hrd hx hrb hob hh0 hh1 hv0 hv1 hk0 hv0'
  go_enter Try.func14, Try.ntmps14
  go_wp2_with fail
  refine (HPh.out _).mono ?_; rintro e wz ⟨rfl, rfl⟩
  clear HPh
  go_wp2_with fail
  refine (HPv.out _).mono ?_; rintro e wz ⟨rfl, rfl⟩
  clear HPv
  have HSh := Lib.hid (sh_New (fun _ => 0) 30 w (1 + k0) (by omega))
  obtain ⟨h, hhe⟩ : ∃ h : Nat, 1 + k0 = h := ⟨_, rfl⟩
  obtain ⟨v, hve⟩ : ∃ v : Nat, 1 + v0 = v := ⟨_, rfl⟩
  have e1 : 1 + (k0 : Int) = (h : Int) := by omega
  have e2 : 1 + (v0 : Int) = (v : Int) := by omega
  rw [hhe] at HSh
  have hh18 : 1 ≤ h ∧ h ≤ 8 := by omega
  have hv115 : 1 ≤ v ∧ v ≤ 15 := by omega
  go_wp2_with fail
  refine HSh.out.mono ?_; rintro e w1 ⟨rfl, hS1, hSh1⟩
  obtain ⟨ie, hie, hiz, his, hib⟩ := info_parts info_tlbp
  have HI := Lib.hid (And.intro hie (And.intro hiz (And.intro his hib)))
  have H1 := Lib.hid (show FS w (ext (fun _ => 0) w 30) w1 (w.heap.size + 1) (List.replicate h 0) (.slice none 0 0) [] (fun _ => []) from ⟨hS1.mono (fun _ h => h.elim), hSh1, Rw.nil _ _ _ _ _, fun j p hj => by cases hj⟩)
  clear e1 e2 hhe hve hk8 hv15 hS1 hSh1 HSh hie hiz his hib
  generalize w.heap.size + 1 = sp at *
  go_wp2
  go_loopw [13, 14] (fun s i wr => ∃ (k : Nat), k ≤ h ∧ i = .int .i64 (k : Int) ∧ Hid (∃ own' ps, ps.length = k ∧ FS w own' wr sp (List.replicate h 0) s ps (fun _ => []))) (fun _ i _ => h - (intOf i).toNat)
  case atStart => exact ⟨0, by omega, rfl, _, [], rfl, H1.out⟩
  case round =>
    obtain ⟨k, hk, rfl, HR⟩ := hrel
    clear H1
    by_cases hlt : k < h
    · obtain ⟨own2, ps, hps, hF⟩ := HR.out
      have hlt' : (k : Int) < (h : Int) := by omega
      have HN := Lib.hid (tlb_New own2 (100 + 2 * k) (101 + 2 * k) wr 16 (by omega))
      have H2 := Lib.hid (And.intro hps hF)
      clear hps hF HR
      go_wp2_with fail
      refine HN.out.mono ?_; rintro e w3 ⟨rfl, hS3, hT3⟩
      have hs3 := H2.out.2.step (C := fun _ => False) hS3 (fun x h => h.elim)
      have H3 := Lib.hid (And.intro hs3 hT3)
      clear hS3 hT3 hs3 HN
      generalize wr.heap.size = pk at *
      have hps := H2.out.1
      go_wp2_with ((with_reducible show wpList _ _ _ ((⟨some 54, _, _, _, _, _⟩ : Oper) :: _) _ _); refine wpList_append_rw rfl (.tmp 51) (.tmp 53) _ rfl 106 ie _ 1 8 Try.underlying104 HI.out.1 HI.out.2.1 HI.out.2.2.1 HI.out.2.2.2 rfl (by omega) (own := ext own2 wr (100 + 2 * k)) (d := 20) u13 _ _ rfl (H3.out.1.row.step (step_allocS _ w3 (.cells #[.pointer (some ⟨pk, 0, none⟩)] 106)) (fun h => h)) (w3.heap.size + 1) (some ⟨w3.heap.size, 0, none⟩) 1 1 [.pointer (some ⟨pk, 0, none⟩)] rfl ⟨rfl, fun _ => ⟨_, rfl, Nat.lt_succ_self _, cell_one_new _ _ _⟩⟩ (by simp [Value.oneCell']) (by unfold maxLen; have := H2.out.1; omega) (by have := H2.out.1; omega) ?_)
      intro v4 w4 hst4 hrow4
      have hst5 := ((step_allocS (ext own2 wr (100 + 2 * k)) w3 (.cells #[.pointer (some ⟨pk, 0, none⟩)] 106)).mono (C' := (· = 20)) (fun _ h => h.elim)).trans hst4
      have hF5 := H3.out.1.push hst5 (by rw [H2.out.1]; exact hrow4) (by rw [H2.out.1]; exact H3.out.2)
      have HF5 := Lib.hid hF5
      clear hst4 hrow4 hst5 hF5 H3 hps
      go_wp2
      exact ⟨⟨k + 1, by omega, by go_num, _, ps ++ [pk], by rw [List.length_append, H2.out.1]; rfl, HF5.out⟩, by simp [intOf]; omega⟩
    · obtain rfl : k = h := by omega
      obtain ⟨own2, ps, hps, hF⟩ := HR.out
      have HPS := Lib.hid hps
      have H2 := Lib.hid hF
      clear hlt hps hF HR HI hk
      go_wp2
      go_loopw [17] (fun i wr => ∃ (k' : Nat), k' ≤ m ∧ i = .int .i64 (k' : Int) ∧ Hid (∃ own' L, FS w own' wr sp (List.replicate k 0) u13 ps L)) (fun i _ => m - (intOf i).toNat)
      case atStart => exact ⟨0, by omega, rfl, _, _, H2.out⟩
      case round =>
        rename World => wo
        obtain ⟨i, hi, rfl, HR⟩ := hrel
        clear H2
        by_cases hlt : i < m
        · obtain ⟨own3, L, hF⟩ := HR.out
          have hlt' : (i : Int) < (m : Int) := by omega
          obtain ⟨ab, ao, rfl, hab, hac⟩ := HX.out.1.start (by omega) (by omega)
          obtain ⟨q0, ht, vm, pg, ⟨x0, x1, x2, x3⟩, ⟨ht0, ht1⟩⟩ := HX.out.2 i hlt
          have c1 := (hF.st.upd.cell (p := ⟨ab, ao + (i * 4 + 1), none⟩) hab (fun h => h rfl)).trans (hac _ _ x1)
          have c2 := (hF.st.upd.cell (p := ⟨ab, ao + (i * 4 + 2), none⟩) hab (fun h => h rfl)).trans (hac _ _ x2)
          have c3 := (hF.st.upd.cell (p := ⟨ab, ao + (i * 4 + 3), none⟩) hab (fun h => h rfl)).trans (hac _ _ x3)
          simp only [← Nat.add_assoc] at c1 c2 c3
          have HPx := Lib.hid (fun w => place_calls ht (k : Int) w ht0 ht1 (by omega) (by omega))
          obtain ⟨r, hr⟩ : ∃ r : Nat, ht % (k : Int) = (r : Int) := ⟨(ht % (k : Int)).toNat, by have := Int.emod_nonneg ht (show (k : Int) ≠ 0 by omega); omega⟩
          have hrk : r < k := by have := Int.emod_lt_of_pos ht (show (0 : Int) < k by omega); omega
          rw [hr] at HPx
          obtain ⟨pr, hpr⟩ : ∃ pr, ps[r]? = some pr := ⟨_, List.getElem?_eq_getElem (by rw [HPS.out]; exact hrk)⟩
          obtain ⟨A2, cap2, hv2, hcap2, hf2⟩ := hF.row.form
          obtain ⟨g, o, rfl, hgo, hgl, _, hgc⟩ := hf2 (by rw [HPS.out]; omega)
          have cr := hgc r _ (ptrs_at ps r pr hpr)
          rw [HPS.out] at hv2
          subst hv2
          have hstd : Step (fun _ => False) own3 wo own3 wo.drew := (Step.refl _ _ _).drew
          have hFd := hF.step (C := fun _ => False) hstd (fun x h => h.elim)
          have HPut := Lib.hid (fun (t : Tr) => tlb_Put (hFd.tl r pr hpr) (by omega) t)
          have HFd := Lib.hid (And.intro hFd hpr)
          clear hF hac x0 x1 x2 x3 hr hf2 hgc hgo hgl hstd hFd hpr hcap2 HR
          go_wp2_with fail
          refine wpE_region (S := fun (W' : World) => W'.cell? ⟨ab, ao + i * 4 + 1, none⟩ = some (.int .i64 ht) ∧ W'.cell? ⟨ab, ao + i * 4 + 2, none⟩ = some (.int .i64 vm) ∧ W'.cell? ⟨ab, ao + i * 4 + 3, none⟩ = some (.int .u64 pg) ∧ W'.cell? ⟨g, o + r, none⟩ = some (.pointer (some ⟨pr, 0, none⟩))) (s := 21) (by kernel_rfl) ?_
          have hS : (fun (W' : World) => W'.cell? ⟨ab, ao + i * 4 + 1, none⟩ = some (.int .i64 ht) ∧ W'.cell? ⟨ab, ao + i * 4 + 2, none⟩ = some (.int .i64 vm) ∧ W'.cell? ⟨ab, ao + i * 4 + 3, none⟩ = some (.int .u64 pg) ∧ W'.cell? ⟨g, o + r, none⟩ = some (.pointer (some ⟨pr, 0, none⟩))) _ := ⟨c1, c2, c3, cr⟩
          refine wpE_take (i := 0) (oi := { dst := some 61, op := Go.Op.move (Go.Operand.tmp 13), type := 104, pos := "law.go:315", after := #[], guard := none }) (v := ?_) rfl (by kernel_rfl) (fun _ _ _ h => h) (Or.inl ⟨by rfl, fun W hW => ?_⟩) hS ?_
          rotate_left
          · obtain ⟨hw1, hw2, hw3, hw4⟩ := hW; go_simp; (try go_bits); (try rw [if_pos (by omega)]); (try with_reducible rfl)
          (try simp only [Act.put, List.setIfInBounds_toArray, List.set_cons_succ, List.set_cons_zero])
          refine wpE_take (i := 1) (oi := { dst := some 62, op := Go.Op.move (Go.Operand.tmp 1), type := 97, pos := "law.go:315", after := #[], guard := none }) (v := ?_) rfl (by kernel_rfl) (fun _ _ _ h => h) (Or.inl ⟨by rfl, fun W hW => ?_⟩) hS ?_
          rotate_left
          · obtain ⟨hw1, hw2, hw3, hw4⟩ := hW; go_simp; (try go_bits); (try rw [if_pos (by omega)]); (try with_reducible rfl)
          (try simp only [Act.put, List.setIfInBounds_toArray, List.set_cons_succ, List.set_cons_zero])
          refine wpE_take (i := 2) (oi := { dst := some 63, op := Go.Op.move (Go.Operand.tmp 17), type := 3, pos := "law.go:315", after := #[], guard := none }) (v := ?_) rfl (by kernel_rfl) (fun _ _ _ h => h) (Or.inl ⟨by rfl, fun W hW => ?_⟩) hS ?_
          rotate_left
          · obtain ⟨hw1, hw2, hw3, hw4⟩ := hW; go_simp; (try go_bits); (try rw [if_pos (by omega)]); (try with_reducible rfl)
          (try simp only [Act.put, List.setIfInBounds_toArray, List.set_cons_succ, List.set_cons_zero])
          refine wpE_take (i := 3) (oi := { dst := some 64, op := Go.Op.indexAddr 97 (Go.Operand.tmp 62) (Go.Operand.tmp 63), type := 0, pos := "law.go:315", after := #[{ on := 1, ground := Go.Ground.data }, { on := 2, ground := Go.Ground.data }], guard := none }) (v := ?_) rfl (by kernel_rfl) (fun _ _ _ h => h) (Or.inl ⟨by rfl, fun W hW => ?_⟩) hS ?_
          rotate_left
          · obtain ⟨hw1, hw2, hw3, hw4⟩ := hW; go_simp; (try go_bits); (try rw [if_pos (by omega)]); (try with_reducible rfl)
          (try simp only [Act.put, List.setIfInBounds_toArray, List.set_cons_succ, List.set_cons_zero])
          refine wpE_take (i := 4) (oi := { dst := some 65, op := Go.Op.fieldAddr 113 (Go.Operand.tmp 64) 1, type := 0, pos := "law.go:315", after := #[{ on := 3, ground := Go.Ground.data }], guard := none }) (v := ?_) rfl (by kernel_rfl) (fun _ _ _ h => h) (Or.inl ⟨by rfl, fun W hW => ?_⟩) hS ?_
          rotate_left
          · obtain ⟨hw1, hw2, hw3, hw4⟩ := hW; go_simp; (try go_bits); (try rw [if_pos (by omega)]); (try with_reducible rfl)
          (try simp only [Act.put, List.setIfInBounds_toArray, List.set_cons_succ, List.set_cons_zero])
          refine wpE_take (i := 5) (oi := { dst := some 66, op := Go.Op.load 3 (Go.Operand.tmp 65), type := 3, pos := "law.go:315", after := #[{ on := 4, ground := Go.Ground.data }], guard := none }) (v := ?_) rfl (by kernel_rfl) (fun _ _ _ h => h) (Or.inl ⟨by rfl, fun W hW => ?_⟩) hS ?_
          rotate_left
          · obtain ⟨hw1, hw2, hw3, hw4⟩ := hW; go_simp; (try go_bits); (try rw [if_pos (by omega)]); (try with_reducible rfl)
          (try simp only [Act.put, List.setIfInBounds_toArray, List.set_cons_succ, List.set_cons_zero])
          refine wpE_take (i := 6) (oi := { dst := some 67, op := Go.Op.move (Go.Operand.tmp 9), type := 3, pos := "law.go:315", after := #[], guard := none }) (v := ?_) rfl (by kernel_rfl) (fun _ _ _ h => h) (Or.inl ⟨by rfl, fun W hW => ?_⟩) hS ?_
          rotate_left
          · obtain ⟨hw1, hw2, hw3, hw4⟩ := hW; go_simp; (try go_bits); (try rw [if_pos (by omega)]); (try with_reducible rfl)
          (try simp only [Act.put, List.setIfInBounds_toArray, List.set_cons_succ, List.set_cons_zero])
          refine wpE_take (i := 10) (oi := { dst := some 71, op := Go.Op.move (Go.Operand.tmp 1), type := 97, pos := "law.go:315", after := #[], guard := none }) (v := ?_) rfl (by kernel_rfl) (fun _ _ _ h => h) (Or.inl ⟨by rfl, fun W hW => ?_⟩) hS ?_
          rotate_left
          · obtain ⟨hw1, hw2, hw3, hw4⟩ := hW; go_simp; (try go_bits); (try rw [if_pos (by omega)]); (try with_reducible rfl)
          (try simp only [Act.put, List.setIfInBounds_toArray, List.set_cons_succ, List.set_cons_zero])
          refine wpE_take (i := 11) (oi := { dst := some 72, op := Go.Op.move (Go.Operand.tmp 17), type := 3, pos := "law.go:315", after := #[], guard := none }) (v := ?_) rfl (by kernel_rfl) (fun _ _ _ h => h) (Or.inl ⟨by rfl, fun W hW => ?_⟩) hS ?_
          rotate_left
          · obtain ⟨hw1, hw2, hw3, hw4⟩ := hW; go_simp; (try go_bits); (try rw [if_pos (by omega)]); (try with_reducible rfl)
          (try simp only [Act.put, List.setIfInBounds_toArray, List.set_cons_succ, List.set_cons_zero])
          refine wpE_take (i := 12) (oi := { dst := some 73, op := Go.Op.indexAddr 97 (Go.Operand.tmp 71) (Go.Operand.tmp 72), type := 0, pos := "law.go:315", after := #[{ on := 10, ground := Go.Ground.data }, { on := 11, ground := Go.Ground.data }], guard := none }) (v := ?_) rfl (by kernel_rfl) (fun _ _ _ h => h) (Or.inl ⟨by rfl, fun W hW => ?_⟩) hS ?_
          rotate_left
          · obtain ⟨hw1, hw2, hw3, hw4⟩ := hW; go_simp; (try go_bits); (try rw [if_pos (by omega)]); (try with_reducible rfl)
          (try simp only [Act.put, List.setIfInBounds_toArray, List.set_cons_succ, List.set_cons_zero])
          refine wpE_take (i := 13) (oi := { dst := some 74, op := Go.Op.fieldAddr 113 (Go.Operand.tmp 73) 2, type := 0, pos := "law.go:315", after := #[{ on := 12, ground := Go.Ground.data }], guard := none }) (v := ?_) rfl (by kernel_rfl) (fun _ _ _ h => h) (Or.inl ⟨by rfl, fun W hW => ?_⟩) hS ?_
          rotate_left
          · obtain ⟨hw1, hw2, hw3, hw4⟩ := hW; go_simp; (try go_bits); (try rw [if_pos (by omega)]); (try with_reducible rfl)
          (try simp only [Act.put, List.setIfInBounds_toArray, List.set_cons_succ, List.set_cons_zero])
          refine wpE_take (i := 14) (oi := { dst := some 75, op := Go.Op.load 3 (Go.Operand.tmp 74), type := 3, pos := "law.go:315", after := #[{ on := 13, ground := Go.Ground.data }], guard := none }) (v := ?_) rfl (by kernel_rfl) (fun _ _ _ h => h) (Or.inl ⟨by rfl, fun W hW => ?_⟩) hS ?_
          rotate_left
          · obtain ⟨hw1, hw2, hw3, hw4⟩ := hW; go_simp; (try go_bits); (try rw [if_pos (by omega)]); (try with_reducible rfl)
          (try simp only [Act.put, List.setIfInBounds_toArray, List.set_cons_succ, List.set_cons_zero])
          refine wpE_take (i := 15) (oi := { dst := some 76, op := Go.Op.move (Go.Operand.tmp 1), type := 97, pos := "law.go:315", after := #[], guard := none }) (v := ?_) rfl (by kernel_rfl) (fun _ _ _ h => h) (Or.inl ⟨by rfl, fun W hW => ?_⟩) hS ?_
          rotate_left
          · obtain ⟨hw1, hw2, hw3, hw4⟩ := hW; go_simp; (try go_bits); (try rw [if_pos (by omega)]); (try with_reducible rfl)
          (try simp only [Act.put, List.setIfInBounds_toArray, List.set_cons_succ, List.set_cons_zero])
          refine wpE_take (i := 16) (oi := { dst := some 77, op := Go.Op.move (Go.Operand.tmp 17), type := 3, pos := "law.go:315", after := #[], guard := none }) (v := ?_) rfl (by kernel_rfl) (fun _ _ _ h => h) (Or.inl ⟨by rfl, fun W hW => ?_⟩) hS ?_
          rotate_left
          · obtain ⟨hw1, hw2, hw3, hw4⟩ := hW; go_simp; (try go_bits); (try rw [if_pos (by omega)]); (try with_reducible rfl)
          (try simp only [Act.put, List.setIfInBounds_toArray, List.set_cons_succ, List.set_cons_zero])
          refine wpE_take (i := 17) (oi := { dst := some 78, op := Go.Op.indexAddr 97 (Go.Operand.tmp 76) (Go.Operand.tmp 77), type := 0, pos := "law.go:315", after := #[{ on := 15, ground := Go.Ground.data }, { on := 16, ground := Go.Ground.data }], guard := none }) (v := ?_) rfl (by kernel_rfl) (fun _ _ _ h => h) (Or.inl ⟨by rfl, fun W hW => ?_⟩) hS ?_
          rotate_left
          · obtain ⟨hw1, hw2, hw3, hw4⟩ := hW; go_simp; (try go_bits); (try rw [if_pos (by omega)]); (try with_reducible rfl)
          (try simp only [Act.put, List.setIfInBounds_toArray, List.set_cons_succ, List.set_cons_zero])
          refine wpE_take (i := 18) (oi := { dst := some 79, op := Go.Op.fieldAddr 113 (Go.Operand.tmp 78) 3, type := 0, pos := "law.go:315", after := #[{ on := 17, ground := Go.Ground.data }], guard := none }) (v := ?_) rfl (by kernel_rfl) (fun _ _ _ h => h) (Or.inl ⟨by rfl, fun W hW => ?_⟩) hS ?_
          rotate_left
          · obtain ⟨hw1, hw2, hw3, hw4⟩ := hW; go_simp; (try go_bits); (try rw [if_pos (by omega)]); (try with_reducible rfl)
          (try simp only [Act.put, List.setIfInBounds_toArray, List.set_cons_succ, List.set_cons_zero])
          refine wpE_take (i := 19) (oi := { dst := some 80, op := Go.Op.load 30 (Go.Operand.tmp 79), type := 30, pos := "law.go:315", after := #[{ on := 18, ground := Go.Ground.data }], guard := none }) (v := ?_) rfl (by kernel_rfl) (fun _ _ _ h => h) (Or.inl ⟨by rfl, fun W hW => ?_⟩) hS ?_
          rotate_left
          · obtain ⟨hw1, hw2, hw3, hw4⟩ := hW; go_simp; (try go_bits); (try rw [if_pos (by omega)]); (try with_reducible rfl)
          (try simp only [Act.put, List.setIfInBounds_toArray, List.set_cons_succ, List.set_cons_zero])
          refine wpE_take (i := 20) (oi := { dst := some 81, op := Go.Op.build 119 #[(0, Go.Operand.tmp 75), (1, Go.Operand.tmp 80), (2, Go.Operand.const (Go.Value.int Go.IntKind.u64 3)), (3, Go.Operand.const (Go.Value.int Go.IntKind.i64 2))], type := 119, pos := "law.go:315", after := #[{ on := 14, ground := Go.Ground.data }, { on := 19, ground := Go.Ground.data }], guard := none }) (v := ?_) rfl (by kernel_rfl) (fun _ _ _ h => h) (Or.inl ⟨by rfl, fun W hW => ?_⟩) hS ?_
          rotate_left
          · obtain ⟨hw1, hw2, hw3, hw4⟩ := hW; go_simp; (try go_bits); (try rw [if_pos (by omega)]); (try with_reducible rfl)
          (try simp only [Act.put, List.setIfInBounds_toArray, List.set_cons_succ, List.set_cons_zero])
          refine wpE_only (i := 7) (oi := { dst := some 68, op := Go.Op.call { callee := Go.Callee.value (Go.Operand.func 17), args := #[Go.Operand.tmp 66, Go.Operand.tmp 67], argTypes := #[3, 3] }, type := 3, pos := "law.go:315", after := #[{ on := 5, ground := Go.Ground.data }, { on := 6, ground := Go.Ground.data }], guard := none }) rfl (by kernel_rfl) (by rfl) (fun K hK => ?_)
          go_simp; refine (HPx.out _).mono ?_; rintro e wz ⟨rfl, rfl⟩; refine hK _ _ hS ?_; clear hK K
          (try simp only [Act.put, List.setIfInBounds_toArray, List.set_cons_succ, List.set_cons_zero])
          refine wpE_take (i := 8) (oi := { dst := some 69, op := Go.Op.indexAddr 104 (Go.Operand.tmp 61) (Go.Operand.tmp 68), type := 0, pos := "law.go:315", after := #[{ on := 0, ground := Go.Ground.data }, { on := 7, ground := Go.Ground.data }], guard := none }) (v := ?_) rfl (by kernel_rfl) (fun _ _ _ h => h) (Or.inl ⟨by rfl, fun W hW => ?_⟩) hS ?_
          rotate_left
          · obtain ⟨hw1, hw2, hw3, hw4⟩ := hW; go_simp; (try go_bits); (try rw [if_pos (by omega)]); (try with_reducible rfl)
          (try simp only [Act.put, List.setIfInBounds_toArray, List.set_cons_succ, List.set_cons_zero])
          refine wpE_take (i := 9) (oi := { dst := some 70, op := Go.Op.load 106 (Go.Operand.tmp 69), type := 106, pos := "law.go:315", after := #[{ on := 8, ground := Go.Ground.data }], guard := none }) (v := ?_) rfl (by kernel_rfl) (fun _ _ _ h => h) (Or.inl ⟨by rfl, fun W hW => ?_⟩) hS ?_
          rotate_left
          · obtain ⟨hw1, hw2, hw3, hw4⟩ := hW; go_simp; (try go_bits); (try rw [if_pos (by omega)]); (try with_reducible rfl)
          (try simp only [Act.put, List.setIfInBounds_toArray, List.set_cons_succ, List.set_cons_zero])
          refine wpE_last (oi := { dst := some 82, op := Go.Op.call { callee := Go.Callee.value (Go.Operand.func 66), args := #[Go.Operand.tmp 70, Go.Operand.tmp 81], argTypes := #[106, 119] }, type := 0, pos := "law.go:315", after := #[{ on := 9, ground := Go.Ground.data }, { on := 20, ground := Go.Ground.data }, { on := 7, ground := Go.Ground.chain }], guard := none }) rfl (by kernel_rfl) (by kernel_rfl) (by rfl) (fun K hK => ?_)
          go_simp
          refine (HPut.out ⟨vm, pg, 3, 2⟩).mono ?_; rintro e w5 ⟨rfl, own5, hS5, hT5⟩
          have hF5 := HFd.out.1.one r pr HFd.out.2 hS5 (fun x hx => Or.inr hx) (HFd.out.1.sh.step hS5 (by omega)) hT5
          have HF5 := Lib.hid hF5
          clear hS5 hT5 hF5 HPut HFd
          refine hK _ _ ?_; clear hK K
          clear hS c1 c2 c3 cr
          go_wp2
          exact ⟨⟨i + 1, by omega, by go_num, _, _, HF5.out⟩, by simp [intOf]; omega⟩
        · obtain rfl : i = m := by omega
          obtain ⟨own3, L, hF⟩ := HR.out
          have HPo := Lib.hid (sh_Post hF.sh v hv115)
          have H3 := Lib.hid hF
          clear hF HR
          go_wp2_with fail
          refine HPo.out.mono ?_; rintro e w5 ⟨rfl, hS5, hSh5⟩
          have hpl : postL (List.replicate k 0) v = List.replicate k (2 ^ v) := by unfold postL orV; rw [List.map_replicate, Nat.zero_or]
          rw [hpl] at hSh5
          have hF5 : FS w own3 w5 sp (List.replicate k (2 ^ v)) u13 ps L := ⟨H3.out.st.trans (hS5.mono (fun x hx => by omega)), hSh5, H3.out.row.step hS5 (by omega), fun j p hj => (H3.out.tl j p hj).step hS5 (by omega) (by omega)⟩
          have hcl : Clean v (List.replicate k (2 ^ v)) L := fun j b hj => by
            rw [List.getElem?_replicate] at hj
            split at hj
            · exact Or.inl (Option.some.inj hj).symm
            · cases hj
          have H5 := Lib.hid (And.intro hF5 hcl)
          clear hS5 hSh5 hpl hF5 hcl H3 HPo
          go_wp2
          go_loopw [18] (fun i wr => ∃ (n : Nat), n ≤ os.length + k ∧ i = .int .i64 (n : Int) ∧ Hid (∃ own' bs L, bs.length = k ∧ FS w own' wr sp bs u13 ps L ∧ Clean v bs L ∧ ∀ j, j < k → j + os.length < n → bs[j]? = some 0)) (fun i _ => os.length + k - (intOf i).toNat)
          case atStart => exact ⟨0, by omega, rfl, own3, _, L, by rw [List.length_replicate], H5.out.1, H5.out.2, fun j _ h => by omega⟩
          case round =>
            rename World => wp
            obtain ⟨n, hn, rfl, HR⟩ := hrel
            clear H5
            by_cases hlt : n < os.length + k
            · obtain ⟨own4, bs, L4, hbl, hF, hC, hz⟩ := HR.out
              have hlt' : (n : Int) < (os.length : Int) + (k : Int) := by omega
              by_cases hlo : n < os.length
              · have hlo' : (n : Int) < (os.length : Int) := by omega
                obtain ⟨bb, bo, rfl, hbb, hbc⟩ := HXB.out.1.start (by omega) (by omega)
                have hget : os[n]? = some os[n] := List.getElem?_eq_getElem hlo
                have hwf := HXB.out.2 _ (List.getElem_mem hlo)
                have c0 := (hF.st.upd.cell (p := ⟨bb, bo + n, none⟩) hbb (fun h => h rfl)).trans (hbc n _ (by rw [List.getElem?_map, hget]; rfl))
                generalize os[n] = z at *
                obtain ⟨hz0, hz1⟩ := hwf
                have HPx := Lib.hid (fun w => place_calls z (k : Int) w hz0 hz1 (by omega) (by omega))
                obtain ⟨r, hr⟩ : ∃ r : Nat, z % (k : Int) = (r : Int) := ⟨(z % (k : Int)).toNat, by have := Int.emod_nonneg z (show (k : Int) ≠ 0 by omega); omega⟩
                have hrk : r < k := by have := Int.emod_lt_of_pos z (show (0 : Int) < k by omega); omega
                rw [hr] at HPx
                obtain ⟨pr, hpr⟩ : ∃ pr, ps[r]? = some pr := ⟨_, List.getElem?_eq_getElem (by rw [HPS.out]; exact hrk)⟩
                obtain ⟨b, hb⟩ : ∃ b, bs[r]? = some b := ⟨_, List.getElem?_eq_getElem (by rw [hbl]; exact hrk)⟩
                obtain ⟨A2, cap2, hv2, hcap2, hf2⟩ := hF.row.form
                obtain ⟨g, o, rfl, hgo, hgl, _, hgc⟩ := hf2 (by rw [HPS.out]; omega)
                have cr := hgc r _ (ptrs_at ps r pr hpr)
                rw [HPS.out] at hv2
                subst hv2
                have HSv := Lib.hid (sh_Serve hF.sh (hF.tl r pr hpr) (by omega) r b hb)
                have hnew : ∀ bs' : List Nat, (∀ j : Nat, bs[j]? = some 0 → bs'[j]? = some 0) → bs'[r]? = some 0 → ∀ j, j < k → j + os.length < n + 1 → bs'[j]? = some 0 := fun bs' h1 h2 j hj hjn => by omega
                have HW := Lib.hid (And.intro hF (And.intro (And.intro hbl (And.intro hpr hb)) (And.intro hC hnew)))
                clear hF hbl hC hz hget hbc hr hpr hb hcap2 hf2 hgo hgl hgc hnew HR hz0 hz1
                go_wp2_with fail
                refine (HPx.out _).mono ?_; rintro e wz ⟨rfl, rfl⟩
                clear HPx c0
                go_wp2_with fail
                ((with_reducible refine HSv.out.mono ?_); rintro e w6 ⟨rfl, own6, hS6, hSh6, hT6⟩)
                have hcs := HW.out.2.2.1.serve hv115 r b HW.out.2.1.2.2
                have H6 := Lib.hid (And.intro (HW.out.1.one r pr HW.out.2.1.2.1 hS6 (fun x hx => by omega) hSh6 hT6) (And.intro (hcs.2.1.trans HW.out.2.1.1) (And.intro hcs.1 (HW.out.2.2.2 _ hcs.2.2.2 hcs.2.2.1))))
                clear hS6 hSh6 hT6 hcs HW HSv cr
                go_wp2
                exact ⟨⟨n + 1, by omega, by go_num, own6, _, _, H6.out.2.1, H6.out.1, H6.out.2.2.1, H6.out.2.2.2⟩, by simp [intOf]; omega⟩
              · have hlo' : ¬ (n : Int) < (os.length : Int) := by omega
                obtain ⟨r, rfl⟩ : ∃ r, n = os.length + r := ⟨n - os.length, by omega⟩
                have hrk : r < k := by omega
                obtain ⟨pr, hpr⟩ : ∃ pr, ps[r]? = some pr := ⟨_, List.getElem?_eq_getElem (by rw [HPS.out]; exact hrk)⟩
                obtain ⟨b, hb⟩ : ∃ b, bs[r]? = some b := ⟨_, List.getElem?_eq_getElem (by rw [hbl]; exact hrk)⟩
                obtain ⟨A2, cap2, hv2, hcap2, hf2⟩ := hF.row.form
                obtain ⟨g, o, rfl, hgo, hgl, _, hgc⟩ := hf2 (by rw [HPS.out]; omega)
                have cr := hgc r _ (ptrs_at ps r pr hpr)
                rw [HPS.out] at hv2
                subst hv2
                have HSv := Lib.hid (sh_Serve hF.sh (hF.tl r pr hpr) (by omega) r b hb)
                have hnew : ∀ bs' : List Nat, (∀ j : Nat, bs[j]? = some 0 → bs'[j]? = some 0) → bs'[r]? = some 0 → ∀ j, j < k → j + os.length < os.length + r + 1 → bs'[j]? = some 0 := fun bs' h1 h2 j hj hjn => by
                  rcases Nat.lt_or_ge j r with h | h
                  · exact h1 j (hz j hj (by omega))
                  · obtain rfl : j = r := by omega
                    exact h2
                have hsub : (os.length : Int) + (r : Int) - (os.length : Int) = (r : Int) := by omega
                have HW := Lib.hid (And.intro hF (And.intro (And.intro hbl (And.intro hpr hb)) (And.intro hC hnew)))
                clear hF hbl hC hz hpr hb hcap2 hf2 hgo hgl hgc hnew HR
                go_wp2_with fail
                ((with_reducible refine HSv.out.mono ?_); rintro e w6 ⟨rfl, own6, hS6, hSh6, hT6⟩)
                have hcs := HW.out.2.2.1.serve hv115 r b HW.out.2.1.2.2
                have H6 := Lib.hid (And.intro (HW.out.1.one r pr HW.out.2.1.2.1 hS6 (fun x hx => by omega) hSh6 hT6) (And.intro (hcs.2.1.trans HW.out.2.1.1) (And.intro hcs.1 (HW.out.2.2.2 _ hcs.2.2.2 hcs.2.2.1))))
                clear hS6 hSh6 hT6 hcs HW HSv cr hsub
                go_wp2
                exact ⟨⟨os.length + r + 1, by omega, by go_num, own6, _, _, H6.out.2.1, H6.out.1, H6.out.2.2.1, H6.out.2.2.2⟩, by simp [intOf]; omega⟩
            · obtain rfl : n = os.length + k := by omega
              obtain ⟨own4, bs, L4, hbl, hF, hC, hz⟩ := HR.out
              have hall : bs = List.replicate k 0 := by
                refine List.eq_replicate_iff.2 ⟨hbl, fun b hb => ?_⟩
                obtain ⟨j, hj⟩ := List.getElem?_of_mem hb
                have hjl := (List.getElem?_eq_some_iff.1 hj).1
                have := hz j (by omega) (by omega)
                rw [hj] at this; exact Option.some.inj this
              subst hall
              have hL : ∀ j, j < k → ∀ t ∈ L4 j, t.v ≠ (v : Int) := fun j hj => by
                rcases hC j 0 (by rw [List.getElem?_replicate, if_pos hj]) with h | h
                · exact absurd h.symm (Nat.ne_of_gt (Nat.two_pow_pos v))
                · exact h.2
              have H5 := Lib.hid (And.intro hF hL)
              clear hlt hbl hF hC hz hL HR
              go_wp2
              go_loopw [20] (fun i wr => ∃ (j : Nat), j ≤ k ∧ i = .int .i64 (j : Int) ∧ Hid (∃ own', FS w own' wr sp (List.replicate k 0) u13 ps L4)) (fun i _ => k - (intOf i).toNat)
              case atStart => exact ⟨0, by omega, rfl, own4, H5.out.1⟩
              case round =>
                rename World => wq
                have HL4 := Lib.hid H5.out.2
                clear H5
                obtain ⟨j, hj, rfl, HR⟩ := hrel
                by_cases hlt : j < k
                · obtain ⟨own5, hF⟩ := HR.out
                  have hlt' : (j : Int) < (k : Int) := by omega
                  obtain ⟨pr, hpr⟩ : ∃ pr, ps[j]? = some pr := ⟨_, List.getElem?_eq_getElem (by rw [HPS.out]; exact hlt)⟩
                  obtain ⟨A2, cap2, hv2, hcap2, hf2⟩ := hF.row.form
                  obtain ⟨g, o, rfl, hgo, hgl, _, hgc⟩ := hf2 (by rw [HPS.out]; omega)
                  have cr := hgc j _ (ptrs_at ps j pr hpr)
                  rw [HPS.out] at hv2
                  subst hv2
                  have HE := Lib.hid (tlb_Entries (hF.tl j pr hpr) 10)
                  have hno := HL4.out j hlt
                  have hlen := (hF.tl j pr hpr).2.2.2
                  have HNo := Lib.hid (And.intro hno hlen)
                  have H6 := Lib.hid hF
                  generalize L4 j = l at *
                  clear hF hpr hcap2 hf2 hgo hgl hgc hno hlen HR
                  go_wp2_with fail
                  ((with_reducible refine HE.out.mono ?_); rintro e w7 ⟨v7, rfl, hS7, hR7⟩)
                  obtain ⟨A7, cap7, rfl, _, hf7⟩ := hR7.form
                  have H7 := Lib.hid (And.intro (H6.out.step (C := fun _ => False) hS7 (fun x h => h.elim)) hf7)
                  clear hS7 hR7 hf7 HE H6 cr
                  have hl16 : l.length ≤ 16 := HNo.out.2
                  go_wp2
                  go_loop [22] (fun i => ∃ (q : Nat), q ≤ l.length ∧ i = .int .i64 (q : Int)) (fun i => l.length - (intOf i).toNat)
                  case atStart => exact ⟨0, by omega, rfl⟩
                  case round =>
                    obtain ⟨q, hq, rfl⟩ := hrel
                    by_cases hlq : q < l.length
                    · have hlq' : (q : Int) < (l.length : Int) := by omega
                      obtain ⟨g7, o7, rfl, _, hgl7, _, hc7⟩ := H7.out.2 (by omega)
                      have hget : l[q]? = some l[q] := List.getElem?_eq_getElem hlq
                      have cq := hc7 _ _ (trsC_at l q _ hget).1
                      have hne : (l[q].v == (v : Int)) = false := by simpa using HNo.out.1 _ (List.getElem_mem hlq)
                      generalize l[q].v = tv at *
                      clear hget hc7
                      go_wp2
                      go_round
                      case rel => exact ⟨q + 1, by omega, by go_num⟩
                      case measure => simp [intOf]; omega
                    · obtain rfl : q = l.length := by omega
                      go_wp2
                      exact ⟨⟨j + 1, by omega, by go_num, _, H7.out.1⟩, by simp [intOf]; omega⟩
                · obtain rfl : j = k := by omega
                  obtain ⟨own5, hF⟩ := HR.out
                  have hid := sh_Idle hF.sh
                  have hal : (List.replicate j 0).all (· == 0) = true := by rw [List.all_eq_true]; intro x hx; rw [List.mem_replicate] at hx; rw [hx.2]; rfl
                  rw [hal] at hid
                  have HID := Lib.hid hid
                  have HU := Lib.hid (show Upd (fun _ => False) w wq from hF.st.upd.mono (fun i hi h => h rfl))
                  clear hF hal hid HR hlt
                  go_wp2_with fail
                  ((with_reducible refine HID.out.mono ?_); rintro e w8 ⟨rfl, rfl⟩)
                  clear HID
                  go_wp2_with fail
                  refine (awake10 wq).mono ?_; rintro e w8 ⟨rfl, hU8⟩
                  have H8 := Lib.hid (HU.out.trans hU8)
                  clear hU8 HU
                  go_wp2
                  go_ret
                  exact ⟨rfl, H8.out⟩
end Go.Proofs.Ytpodeclkgcgpgaa
