import Derived.Test.YtjhibbhinbdciaaQu7
import Derived.Laws.StructEq
/- citadellaw13.awake. -/
namespace Go.Proofs.Ytjhibbhinbdciaa
set_option linter.unusedVariables false
set_option linter.unusedSimpArgs false
open Go.RowKit
set_option maxRecDepth 100000
theorem seg_eq (a b c d : Int) (w : World) : (Op.equalIn 10000 44 (.agg #[.int .u64 a, .int .i64 b]) (.agg #[.int .u64 c, .int .i64 d])).run Try.prog w = .ok (a == c && b == d) w := by
  have u3 := Try.underlying3
  have u30 := Try.underlying29
  have hS : Try.prog.underlying 44 = some (.struct (Try.prog.fieldsOf 44)) := by kernel_rfl
  have hp : Try.prog.stoodInHeld 44 = false := by kernel_rfl
  rw [show (10000 : Nat) = 9999 + 1 from rfl, run_equalIn_agg w 9999 44 _ _ hS hp]
  simp only [Program.fieldsOf, Try.underlying44]
  go_simp
  by_cases h1 : a = c <;> by_cases h2 : b = d <;> simp [h1, h2]
set_option maxHeartbeats 4000000 in
theorem awake13 (w : World) : Calls Try.prog 19 #[] w fun x w' => x = .returned (.bool true) ∧ Upd (fun _ => False) w w' := by
  have hMm := law_Memory 1 (by decide) (by decide) (fun _ => 0) 1 2 (by decide) w
  rw [show ((1 : Nat) : Int) = 1 from rfl] at hMm
  have HM := Lib.hid hMm
  clear hMm
  go_enter Try.func19, Try.ntmps19
  go_wp2_with fail
  ((with_reducible refine HM.out.mono ?_); rintro x w1 ⟨p1, p2, own1, rfl, hS1, hm1, hm2⟩)
  have hS2 : Step (fun _ => False) own1 w1 (ext own1 w1 9) (w1.alloc (.cells #[.pointer (some ⟨p1, 0, none⟩), .pointer (some ⟨p2, 0, none⟩)] 26)) := ⟨(Upd.refl _ _).alloc _, fun b hb => ext_old _ _ _ hb⟩
  have HN := Lib.hid (q_New (ext own1 w1 9) 3 (w1.alloc (.cells #[.pointer (some ⟨p1, 0, none⟩), .pointer (some ⟨p2, 0, none⟩)] 26)))
  have hO : ∀ b, b < w.heap.size → ext own1 w1 9 b = 0 := fun b hb => (ext_old own1 w1 9 (Nat.lt_of_lt_of_le hb hS1.upd.size)).trans (hS1.old b hb)
  have H1 := Lib.hid (And.intro ((hS1.trans hS2).upd.mono (fun _ _ h => h.elim) : Upd (fun _ => False) w _) (And.intro hO (And.intro (hm1.step hS2 (fun h => h)) (And.intro (hm2.step hS2 (fun h => h)) (And.intro (Blk.new w1 26 #[.pointer (some ⟨p1, 0, none⟩), .pointer (some ⟨p2, 0, none⟩)]) (show ext own1 w1 9 w1.heap.size = 9 from ext_new _ _ _ (Nat.le_refl _)))))))
  clear hS1 hm1 hm2 hS2 hO HM
  go_wp2_with fail
  ((with_reducible refine HN.out.mono ?_); rintro x w2 ⟨p, own2, rfl, hS2, hQ2⟩)
  have hb2 := hS2.blk H1.out.2.2.2.2.1 H1.out.2.2.2.2.2 (fun h => h)
  have H2 := Lib.hid (And.intro (H1.out.1.trans hS2.upd) (And.intro (fun b (hb : b < w.heap.size) => (hS2.old b (Nat.lt_of_lt_of_le hb H1.out.1.size)).trans (H1.out.2.1 b hb)) (And.intro (H1.out.2.2.1.step hS2 (fun h => h)) (And.intro (H1.out.2.2.2.1.step hS2 (fun h => h)) (And.intro hb2 hQ2)))))
  have hSe := q_Setup hQ2 2 256 2048 2304 (by decide) (by decide) (by decide) (by decide)
  rw [aw_set.1, aw_set.2] at hSe
  rw [show ((256 : Nat) : Int) = 256 from rfl, show ((2048 : Nat) : Int) = 2048 from rfl, show ((2304 : Nat) : Int) = 2304 from rfl] at hSe
  have HS := Lib.hid hSe
  clear hS2 hQ2 hb2 hSe H1 HN
  generalize w1.heap.size = xb at *
  go_wp2_with fail
  ((with_reducible refine HS.out.mono ?_); rintro x w3 ⟨rfl, hS3, hQ3⟩)
  have hb3 := hS3.blk H2.out.2.2.2.2.1.1 H2.out.2.2.2.2.1.2 (by decide)
  have hU3 := H2.out.1.trans' hS3.upd (fun i hi e => by rw [H2.out.2.1 i hi] at e; cases e)
  have hM3 := H2.out.2.2.1.step hS3 (by decide)
  have hR3 := H2.out.2.2.2.1.step hS3 (by decide)
  have x0 := hb3.1.cell 0
  have x1 := hb3.1.cell 1
  simp only [List.getElem?_toArray, List.getElem?_cons_zero, List.getElem?_cons_succ] at x0 x1
  have HP := Lib.hid (law13_Put (by decide) hM3 hR3 0 1024 8 0 0 (by decide) (by decide) (by decide) (by decide) (by decide))
  have H3 := Lib.hid (And.intro hU3 (And.intro H2.out.2.1 (And.intro hb3 hQ3)))
  clear hS3 hQ3 hb3 hU3 hM3 hR3 H2 HS
  go_wp2_with fail
  ((with_reducible refine HP.out.mono ?_); rintro x w4 ⟨rfl, own4, hS4, hM4, hR4⟩)
  have hb4 := hS4.blk H3.out.2.2.1.1 H3.out.2.2.1.2 (by decide)
  have hQ4 := H3.out.2.2.2.step hS4 (by decide)
  have hO4 : ∀ b, b < w.heap.size → own4 b = 0 := fun b hb => (hS4.old b (Nat.lt_of_lt_of_le hb H3.out.1.size)).trans (H3.out.2.1 b hb)
  have hU4 := H3.out.1.trans' hS4.upd (fun i hi e => by rw [H3.out.2.1 i hi] at e; omega)
  clear x0 x1
  have x0 := hb4.1.cell 0
  have x1 := hb4.1.cell 1
  simp only [List.getElem?_toArray, List.getElem?_cons_zero, List.getElem?_cons_succ] at x0 x1
  have HW := Lib.hid (two_Write (by decide) hM4 hR4 2050 2 1 (by decide) (by decide) (by decide) (by decide) (by decide) (by decide))
  have H4 := Lib.hid (And.intro hU4 (And.intro hO4 (And.intro hb4 hQ4)))
  clear hS4 hM4 hR4 hb4 hQ4 hO4 hU4 H3 HP
  go_wp2_with fail
  ((with_reducible refine HW.out.mono ?_); rintro x w5 ⟨rfl, own5, hS5, hM5, hR5⟩)
  have hb5 := hS5.blk H4.out.2.2.1.1 H4.out.2.2.1.2 (by decide)
  have hQ5 := H4.out.2.2.2.step hS5 (by decide)
  have hO5 : ∀ b, b < w.heap.size → own5 b = 0 := fun b hb => (hS5.old b (Nat.lt_of_lt_of_le hb H4.out.1.size)).trans (H4.out.2.1 b hb)
  have hU5 := H4.out.1.trans' hS5.upd (fun i hi e => by rw [H4.out.2.1 i hi] at e; omega)
  clear x0 x1
  have x0 := hb5.1.cell 0
  have x1 := hb5.1.cell 1
  simp only [List.getElem?_toArray, List.getElem?_cons_zero, List.getElem?_cons_succ] at x0 x1
  have hNx := q_Next hQ5 (show MemAt ramK own5 1 w5 p1 0 1 awM2 from hM5) (by decide) aw_ok 4 (by decide)
  rw [aw_next] at hNx
  unfold memV at hNx
  have HNx := Lib.hid hNx
  have H5 := Lib.hid (And.intro hU5 (And.intro hO5 (And.intro hb5 (show MemAt ramK own5 1 w5 p1 0 1 awM2 from hM5))))
  clear hS5 hM5 hR5 hb5 hQ5 hO5 hU5 H4 HW hNx
  go_wp2_with fail
  ((with_reducible refine HNx.out.mono ?_); rintro x w6 ⟨own6, vR, vW, rfl, hS6, hQ6, hRr, hRw⟩)
  have hb6 := hS6.blk H5.out.2.2.1.1 H5.out.2.2.1.2 (by decide)
  have hM6 := H5.out.2.2.2.step hS6 (by decide)
  have hU6 := H5.out.1.trans' hS6.upd (fun i hi e => by rw [H5.out.2.1 i hi] at e; cases e)
  have hO6 : ∀ b, b < w.heap.size → own6 b = 0 := fun b hb => (hS6.old b (Nat.lt_of_lt_of_le hb H5.out.1.size)).trans (H5.out.2.1 b hb)
  obtain ⟨AR, cR, rfl, _, hform⟩ := hRr.form
  obtain ⟨AW, cW, rfl, _, _⟩ := hRw.form
  obtain ⟨g, o, rfl, _, hgl, _, hcs⟩ := hform (Nat.lt_succ_self 0)
  have r0 : w6.cell? ⟨g, o, none⟩ = some (.int .u64 1024) := hcs 0 _ rfl
  have r1 : w6.cell? ⟨g, o + 1, none⟩ = some (.int .i64 8) := hcs 1 _ rfl
  clear x0 x1
  have W7u : Step (fun _ => False) own6 w6 (ext own6 w6 9) (w6.alloc (.cells #[.int .i64 0, .slice (some ⟨g, o, none⟩) 1 cR, .slice AW 0 cW] 40)) := ⟨(Upd.refl _ _).alloc _, fun b hb => ext_old _ _ _ hb⟩
  have hb7 := W7u.blk hb6.1 hb6.2 (fun h => h)
  have hQ7 := hQ6.step W7u (fun h => h)
  have hM7 := hM6.step W7u (fun h => h)
  have hU7 := hU6.trans W7u.upd
  have hO7 : ∀ b, b < w.heap.size → ext own6 w6 9 b = 0 := fun b hb => (W7u.old b (Nat.lt_of_lt_of_le hb hU6.size)).trans (hO6 b hb)
  have x0 := hb6.1.cell 0
  have hlx := hb6.1.lt
  simp only [List.getElem?_toArray, List.getElem?_cons_zero, List.getElem?_cons_succ] at x0
  have hPs := q_Push hQ7 hM7 (by decide) aw_ok1 0 5 (by decide) (by decide) (by decide) (by decide)
  rw [aw_push] at hPs
  unfold memV at hPs
  have HPs := Lib.hid hPs
  have H7 := Lib.hid (And.intro hU7 hO7)
  have te := seg_eq 1024 8 1024 8
  clear hb6 hb7 hQ6 hQ7 hM6 hM7 hU6 hO6 hU7 hO7 W7u hS6 hRr hRw H5 HNx hPs hform hcs
  go_wp2_with (first | ((with_reducible show wpList _ _ _ ((⟨some 4, _, _, _, _, _⟩ : Oper) :: _) _ _); refine wpList_alloc rfl _ rfl (allocCh _) ?_) | (go_at_call 17; (with_reducible refine HPs.out.mono ?_); rintro x w8 ⟨rfl, own8, hS8, hQ8, hM8⟩))
  have hU8 := H7.out.1.trans' hS8.upd (fun i hi e => by rw [H7.out.2 i hi] at e; omega)
  have HE := Lib.hid hU8
  clear hU8 hS8 hQ8 hM8 H7 HPs
  go_wp2
  go_ret
  exact ⟨rfl, HE.out⟩
end Go.Proofs.Ytjhibbhinbdciaa
