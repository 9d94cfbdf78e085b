import Derived.Test.YtjhibbhinbdciaaRow
/- Colours moved up by one: what is new has the colour 0. -/
namespace Go.Proofs.Ytjhibbhinbdciaa
set_option linter.unusedVariables false
set_option linter.unusedSimpArgs false
open Go.RowKit
theorem Upd.frozen' {S : Nat → Prop} {w w' : World} (h : Upd S w w') {p : Addr} (hp : p.block < w.heap.size) (hs : ¬ S p.block) : w'.frozen? p = w.frozen? p := World.frozen?_of_block (h.block _ hp hs)
/-- the colours as they are, but that nothing old has the colour 0 -/
def up1 (own : Nat → Nat) (w : World) : Nat → Nat := fun b => if b < w.heap.size then own b + 1 else 0
theorem up1_old {own : Nat → Nat} {w : World} {b : Nat} (h : b < w.heap.size) : up1 own w b = own b + 1 := if_pos h
section
variable {own : Nat → Nat} {d : Nat} {w : World} {v : Value}
/-- what a step that makes memory alone says in the colours as they were -/
theorem up1_upd {own' : Nat → Nat} {w' : World} (h : Step (· = 0) (up1 own w) w own' w') : Upd (fun _ => False) w w' :=
  h.upd.mono (fun i hi e => by rw [up1_old hi] at e; omega)
theorem up1_row {e : TypeId} {size n : Nat} {xs : List Value} {own' : Nat → Nat} {w' : World} {v' : Value} (h : Step (· = 0) (up1 own w) w own' w') (hR : Rw e size own' 0 w' v' n xs) (d' : Nat) : Rw e size (ext own w d') d' w' v' n xs := by
  refine hR.recol (fun b e => ?_)
  refine ext_new _ _ _ ?_
  rcases Nat.lt_or_ge b w.heap.size with hb | hb
  · rw [h.old b hb, up1_old hb] at e; omega
  · exact hb
theorem step_alloc' (own : Nat → Nat) (w : World) (o : Obj) : Step (fun _ => False) own w (ext own w 1) (w.alloc o) := ⟨(Upd.refl _ _).alloc _, fun _ hb => ext_old _ _ _ hb⟩
theorem step_allocS (own : Nat → Nat) (w : World) (o : Obj) : Step (fun _ => False) own w own (w.alloc o) := ⟨(Upd.refl _ _).alloc _, fun _ _ => rfl⟩
end
end Go.Proofs.Ytjhibbhinbdciaa
