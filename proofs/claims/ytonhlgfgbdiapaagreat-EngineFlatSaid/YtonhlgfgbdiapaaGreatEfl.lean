import Derived.Test.YtonhlgfgbdiapaaGreatPlF
import Derived.Test.YtonhlgfgbdiapaaGreatEgA
/- EngineFlat: the walk. -/
namespace Go.Proofs.YtonhlgfgbdiapaaGreat
set_option linter.unusedVariables false
set_option linter.unusedSimpArgs false
open Go.RowKit
set_option maxRecDepth 100000
set_option maxHeartbeats 4000000 in
theorem flat_calls (w : World) (b0 : Nat) (hb0 : b0 < 18446744073709551616) (v : Value) (cs : List (Int × Nat)) (hv : CellsAt w v cs) (hlen : cs.length ≤ 9223372036854775807) (hb : ∀ x ∈ cs, -9223372036854775808 ≤ x.1 ∧ x.1 ≤ 9223372036854775807 ∧ x.2 < 18446744073709551616)
    (A : Option Addr) (cap : Nat) (L : List Op8) (hL : Ops8At w (.slice A L.length cap) L) (hLb : ∀ o ∈ L, Op8B o) (hLl : L.length ≤ 9223372036854775807) :
    Calls Tryz.prog 4 #[.int .u64 (b0 : Int), v, .slice A L.length cap] w fun x w' => x = .returned (.bool true) ∧ Upd (fun _ => False) w w' := by
  obtain ⟨bs, hbs⟩ : ∃ bs, b0 % 1099511627776 / 4096 * 4096 = bs := ⟨_, rfl⟩
  have hbI : (b0 : Int) % 1099511627776 / 4096 * 4096 = (bs : Int) := by omega
  have hMm := law_MemoryB bs (by omega) (by omega) 3 (by decide) (by decide) (fun _ => 0) 1 2 (by decide) w v cs hv hlen hb
  rw [show ((3 : Nat) : Int) = 3 from rfl] at hMm
  obtain ⟨M0, hM0⟩ : ∃ M, cellsM 3 (fun _ => 0) cs = M := ⟨_, rfl⟩
  rw [hM0] at hMm
  have HM := Lib.hid hMm
  have HL := Lib.hid (And.intro hL hLb)
  obtain ⟨A0, cap0, rfl, _⟩ := hv
  clear hb hlen hMm hM0 hL hLb hbs
  go_enter Tryz.func4, Tryz.ntmps4
  go_wp2_with fail
  ((with_reducible refine HM.out.mono ?_); rintro x w1 ⟨p, p2, own1, rfl, hS1, hm1, hm2⟩)
  have hS2 : Step (fun _ => False) own1 w1 (ext own1 w1 9) (w1.alloc (.cells #[.pointer (some ⟨p, 0, none⟩), .pointer (some ⟨p2, 0, none⟩)] 34)) := ⟨(Upd.refl _ _).alloc _, fun b hb => ext_old _ _ _ hb⟩
  have HF := Lib.hid (eng_Flat (ext own1 w1 9) 3 p (w1.alloc (.cells #[.pointer (some ⟨p, 0, none⟩), .pointer (some ⟨p2, 0, none⟩)] 34)))
  have H1 := Lib.hid (And.intro (hS1.trans hS2) (And.intro (hm1.step hS2 (fun h => h)) (And.intro (hm2.step hS2 (fun h => h)) (And.intro (Blk.new w1 34 #[.pointer (some ⟨p, 0, none⟩), .pointer (some ⟨p2, 0, none⟩)]) (show ext own1 w1 9 w1.heap.size = 9 from ext_new _ _ _ (Nat.le_refl _))))))
  clear hS1 hm1 hm2 hS2 HM
  go_wp2_with fail
  ((with_reducible refine HF.out.mono ?_); rintro x w2 ⟨e, own2, rfl, hS3, hE3⟩)
  have hc := hS3.blk H1.out.2.2.2.1 H1.out.2.2.2.2 (fun h => h)
  have hFE : FE w own2 w2 e p p2 bs 3 eg0 M0 M0 := ⟨(H1.out.1.trans hS3).mono (fun _ h => h.elim), H1.out.2.1.step hS3 (fun h => h), H1.out.2.2.1.step hS3 (fun h => h), hE3, EgOk.init⟩
  have hSq : Step (fun _ => False) own2 w2 (ext own2 w2 21) (w2.alloc (.cells (erC 0 (.pointer (some ⟨p2, 0, none⟩)) (.pointer none) eg0) 74)) := ⟨(Upd.refl _ _).alloc _, fun b hb => ext_old _ _ _ hb⟩
  have hD : FD w (ext own2 w2 21) (w2.alloc (.cells (erC 0 (.pointer (some ⟨p2, 0, none⟩)) (.pointer none) eg0) 74)) e w2.heap.size p p2 bs 3 eg0 eg0 M0 M0 :=
    ⟨hFE.none_ hSq, ⟨Blk.new w2 _ _, ext_new _ _ _ (Nat.le_refl _)⟩, ErOk.init⟩
  have hcq := hSq.blk hc.1 hc.2 (fun h => h)
  have hPl := play_F hD SimE.init A cap L HL.out.1 HL.out.2 hLl
  rw [show erC 0 (.pointer (some ⟨p2, 0, none⟩)) (.pointer none) eg0 = #[.int .i64 0, .pointer (some ⟨p2, 0, none⟩), .pointer none, .int .u64 0, .int .u64 0, .int .u64 0, .int .u64 0, .int .u64 0, .int .u64 0, .int .u64 0, .int .u64 0] from rfl] at hPl hcq
  have HP := Lib.hid hPl
  have x1 := hc.1.cell 1
  simp only [List.getElem?_toArray, List.getElem?_cons_zero, List.getElem?_cons_succ] at x1
  have HT := Lib.hid hcq
  generalize w1.heap.size = xb at *
  clear hS3 hE3 H1 HF hc hFE hSq hD hcq HL hPl
  go_wp2_with fail
  ((with_reducible refine HP.out.mono ?_); rintro x w3 ⟨rfl, own3, s, t, m, hS, hD, hsim⟩)
  have hc := hS.blk HT.out.1 HT.out.2 (by decide)
  have x0 := hc.1.cell 0
  have x1' := hc.1.cell 1
  simp only [List.getElem?_toArray, List.getElem?_cons_zero, List.getElem?_cons_succ] at x0 x1'
  have HSa := Lib.hid (two_SameB hD.f.mm hD.f.mr)
  have HD := Lib.hid hD
  clear HP HT hS hD hsim hc x1
  go_wp2_with fail
  ((with_reducible refine HSa.out.mono ?_); rintro x w9 ⟨rfl, own9, hS9⟩)
  have H9 := Lib.hid (HD.out.none_ hS9).upd
  clear HSa HD hS9 x0 x1'
  go_wp2_with fail
  ((with_reducible refine (awake08 _).mono ?_); rintro x w13 ⟨rfl, hU13⟩)
  have HE := Lib.hid (H9.out.trans' hU13 (fun _ _ e => e))
  clear hU13 H9
  go_wp2
  go_ret
  exact ⟨rfl, HE.out⟩
theorem flat_callsI (w : World) (b0 : Int) (hb0 : 0 ≤ b0 ∧ b0 ≤ 18446744073709551615) (v : Value) (cs : List (Int × Nat)) (hv : CellsAt w v cs) (hlen : cs.length ≤ maxLen) (hb : ∀ x ∈ cs, -9223372036854775808 ≤ x.1 ∧ x.1 ≤ 9223372036854775807 ∧ x.2 < 18446744073709551616)
    (A : Option Addr) (cap : Nat) (L : List Op8) (hL : Ops8At w (.slice A L.length cap) L) (hLb : ∀ o ∈ L, Op8B o) (hLl : L.length ≤ maxLen) :
    Calls Tryz.prog 4 #[.int .u64 b0, v, .slice A L.length cap] w fun x w' => x = .returned (.bool true) ∧ Upd (fun _ => False) w w' := by
  obtain ⟨b0, rfl⟩ := Int.eq_ofNat_of_zero_le hb0.1
  exact flat_calls w b0 (by omega) v cs hv (by unfold maxLen at hlen; omega) hb A cap L hL hLb (by unfold maxLen at hLl; omega)
end Go.Proofs.YtonhlgfgbdiapaaGreat
