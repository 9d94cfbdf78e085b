import Derived.Test.YtlgcplekcmocbaaIo7
/- citadellaw07.awake. -/
namespace Go.Proofs.Ytlgcplekcmocbaa
set_option linter.unusedVariables false
set_option linter.unusedSimpArgs false
open Go.RowKit
set_option maxRecDepth 100000

set_option maxHeartbeats 2000000 in
theorem awake07 (w : World) : Calls Try.prog 17 #[] w fun e w' => e = .returned (.bool true) ∧ Upd (fun _ => False) w w' := by
  have hN := law07_New (fun _ => 0) 1 2 3 4 5 4 (by decide) w (by decide) (by decide)
  rw [show ((4 : Nat) : Int) = 4 from rfl] at hN
  have HN := Lib.hid hN
  clear hN
  go_enter Try.func17, Try.ntmps17
  go_wp2_with fail
  ((with_reducible refine HN.out.mono ?_); rintro e w1 ⟨p, q, rp, tp, p2, own1, rfl, hS1, hU1, hM1, hT1⟩)
  have hS2 : Step (fun _ => False) own1 w1 (ext own1 w1 9) (w1.alloc (.cells #[.pointer (some ⟨p, 0, none⟩), .pointer (some ⟨q, 0, none⟩), .pointer (some ⟨rp, 0, none⟩), .pointer (some ⟨p2, 0, none⟩)] 31)) := ⟨(Upd.refl _ _).alloc _, fun b hb => ext_old _ _ _ hb⟩
  have hR := io_Remap (hU1.step hS2 (fun h => h)) 1 3 (by decide) (by decide) 2 9
  rw [show ((1 : Nat) : Int) = 1 from rfl, show ((3 : Nat) : Int) = 3 from rfl] at hR
  have HR := Lib.hid hR
  have H1 := Lib.hid (And.intro ((hS1.trans hS2).mono (C' := (· = 1)) (fun _ h => h.elim)) (And.intro (hM1.step hS2 (fun h => h)) (And.intro (Blk.new w1 31 #[.pointer (some ⟨p, 0, none⟩), .pointer (some ⟨q, 0, none⟩), .pointer (some ⟨rp, 0, none⟩), .pointer (some ⟨p2, 0, none⟩)]) (show ext own1 w1 9 w1.heap.size = 9 from ext_new _ _ _ (Nat.le_refl _)))))
  clear hS1 hU1 hM1 hT1 hS2 hR HN
  go_wp2_with fail
  ((with_reducible refine HR.out.mono ?_); rintro e w2 ⟨rfl, own2, hS2, hU2⟩)
  obtain ⟨k1, k2⟩ := hS2.blk H1.out.2.2.1 H1.out.2.2.2 (by decide)
  have hM2 := H1.out.2.1.step hS2 (by decide)
  have hG := io_Msg_good hU2 hM2 1 3 (by decide) (by decide) (by show (if (1 : Nat) = 1 ∧ (3 : Nat) = 3 then (2 : Int) else 0) ≠ 0; decide)
  rw [show (usMs us0 1 3 2 9).mg 1 3 = 2 from rfl, show (usMs us0 1 3 2 9).mi 1 3 = 9 from rfl, show ((1 : Nat) : Int) = 1 from rfl, show ((3 : Nat) : Int) = 3 from rfl] at hG
  have HG := Lib.hid hG
  have x0 := k1.cell 0
  simp only [List.getElem?_toArray, List.getElem?_cons_zero, List.getElem?_cons_succ] at x0
  have HS := Lib.hid (H1.out.1.trans hS2)
  clear hS2 hU2 k1 k2 hM2 hG HR H1
  go_wp2_with fail
  ((with_reducible refine HG.out.mono ?_); rintro e w3 ⟨rfl, own3, hS3, hU3, hM3⟩)
  have hE := HS.out.trans (hS3.mono (C' := (· = 1)) (fun _ h => h.elim))
  have HE := Lib.hid (fun o => (hE.upd.mono (S' := fun _ => False) (fun i hi e => absurd e (by decide))).alloc o)
  clear hS3 hU3 hM3 hE HS HG x0
  go_wp2
  go_ret
  exact ⟨rfl, HE.out _⟩
end Go.Proofs.Ytlgcplekcmocbaa
