import Derived.Test.YtpodeclkgcgpgaaF3
import Derived.Test.YtpodeclkgcgpgaaF4
/- The pool's calls over a law's state. -/
namespace Go.Proofs.Ytpodeclkgcgpgaa
set_option linter.unusedVariables false
open Go.RowKit
set_option maxRecDepth 100000

abbrev C31 : Nat → Prop := fun x => x = 3 ∨ x = 1
/-- what is counted is forgotten -/
abbrev PSt.z (s : PSt) : PSt := ⟨s.ow, s.bt, s.m, 0⟩
section
variable {w wr : World} {pp rp n r hn : Nat} {own' : Nat → Nat} {s : PSt}
theorem st_Take (h : St w pp rp n r hn own' wr s) (a : Int) :
    Calls Try.prog 20 #[.pointer (some ⟨pp, 0, none⟩), .int .i64 a] wr fun e w' => e = .returned (.tuple #[.int .i64 (takeP s.ow a).1, .int .i64 (takeP s.ow a).2.1]) ∧ ∃ own2, Step C31 own' wr own2 w' ∧ St w pp rp n r hn own2 w' ⟨(takeP s.ow a).2.2, s.bt, s.m, s.cnt⟩ := by
  refine (pool_Take h.2.1 a).mono ?_
  rintro e w' ⟨rfl, hS, hP⟩
  have hS' : Step C31 own' wr own' w' := hS.mono (fun x h => Or.inl h)
  exact ⟨rfl, own', hS', h.go hS' ⟨hP, h.2.2.step hS (by omega)⟩⟩
theorem st_Release (h8 : hn ≤ 8) (h : St w pp rp n r hn own' wr s) (f : Int) :
    Calls Try.prog 21 #[.pointer (some ⟨pp, 0, none⟩), .int .i64 f] wr fun e w' => e = .returned (.int .i64 (if relOk r s.ow f then 0 else 11)) ∧ ∃ own2, Step C31 own' wr own2 w' ∧ St w pp rp n r hn own2 w' (relP r hn s f) := by
  refine (pool_Release h8 (by omega) s h.2 f).mono ?_
  rintro e w' ⟨rfl, own2, hS, hP⟩
  exact ⟨rfl, own2, hS, h.go hS hP⟩
theorem st_Ack (h8 : hn ≤ 8) (h : St w pp rp n r hn own' wr s) (k : Int) (hk0 : -9223372036854775808 ≤ k) (hk1 : k ≤ 9223372036854775807) :
    Calls Try.prog 22 #[.pointer (some ⟨pp, 0, none⟩), .int .i64 k] wr fun e w' => e = .returned (.int .i64 ((ackP hn n s.z k).cnt : Int)) ∧ ∃ own2, Step C31 own' wr own2 w' ∧ St w pp rp n r hn own2 w' (ackP hn n s.z k).z := by
  refine (pool_Ack h8 (by omega) s.z rfl h.2 k hk0 hk1).mono ?_
  rintro e w' ⟨rfl, own2, hS, hP⟩
  exact ⟨rfl, own2, hS, h.go hS hP⟩
theorem st_AckDevices (h : St w pp rp n r hn own' wr s) :
    Calls Try.prog 23 #[.pointer (some ⟨pp, 0, none⟩)] wr fun e w' => e = .returned (.int .i64 ((ackN (notB 9223372036854775808) s.z n).cnt : Int)) ∧ ∃ own2, Step C31 own' wr own2 w' ∧ St w pp rp n r hn own2 w' (ackN (notB 9223372036854775808) s.z n).z := by
  refine (pool_AckDevices (by omega) s.z rfl h.2).mono ?_
  rintro e w' ⟨rfl, own2, hS, hP⟩
  exact ⟨rfl, own2, hS, h.go hS hP⟩
theorem st_Owner (h : St w pp rp n r hn own' wr s) (f : Int) :
    Calls Try.prog 24 #[.pointer (some ⟨pp, 0, none⟩), .int .i64 f] wr fun e w' => e = .returned (.int .i64 (ownerP s.ow f)) ∧ wr = w' := pool_Owner h.2.1 f
theorem st_Count (h : St w pp rp n r hn own' wr s) (o : Int) :
    Calls Try.prog 27 #[.pointer (some ⟨pp, 0, none⟩), .int .i64 o] wr fun e w' => e = .returned (.int .i64 (countP s.ow o : Int)) ∧ wr = w' := pool_Count h.2.1 o
theorem st_Waits (h : St w pp rp n r hn own' wr s) (f : Int) :
    Calls Try.prog 25 #[.pointer (some ⟨pp, 0, none⟩), .int .i64 f] wr fun e w' => e = .returned (.int .u64 (waitsP s.bt f)) ∧ ∃ own2, Step C31 own' wr own2 w' ∧ St w pp rp n r hn own2 w' s := by
  refine (pool_Waits h.2.1 f).mono ?_
  rintro e w' ⟨rfl, own2, hS, hP⟩
  have hS' : Step C31 own' wr own2 w' := hS.mono (fun x h => Or.inl h)
  exact ⟨rfl, own2, hS', h.go hS' ⟨hP, h.2.2.step hS (by omega)⟩⟩
theorem st_Read (h : St w pp rp n r hn own' wr s) (addr size : Int) (ha0 : 0 ≤ addr) (ha1 : addr < 18446744073709551616) (hs0 : -9223372036854775808 ≤ size) (hs1 : size ≤ 9223372036854775807) :
    Calls Try.prog 29 #[.pointer (some ⟨rp, 0, none⟩), .int .u64 addr, .int .i64 size] wr fun e w' => e = .returned (.tuple #[.int .u64 (rdR 0 n s.m addr size).1, .bool (rdR 0 n s.m addr size).2]) ∧ ∃ own2, Step C31 own' wr own2 w' ∧ St w pp rp n r hn own2 w' s := by
  refine (ram_Read h.2.2 addr size ha0 ha1 hs0 hs1).mono ?_
  rintro e w' ⟨rfl, k, rfl⟩
  have hS : Step C31 own' wr own' (wr.drewN k) := (Step.refl _ _ _).drewN k
  exact ⟨rfl, own', hS, h.new ((Upd.refl _ _).drewN k)⟩
theorem st_Write (h : St w pp rp n r hn own' wr s) (addr size v : Int) (ha0 : 0 ≤ addr) (ha1 : addr < 18446744073709551616) (hs0 : -9223372036854775808 ≤ size) (hs1 : size ≤ 9223372036854775807) (hv0 : 0 ≤ v) (hv1 : v < 18446744073709551616) :
    Calls Try.prog 28 #[.pointer (some ⟨rp, 0, none⟩), .int .u64 addr, .int .i64 size, .int .u64 v] wr fun e w' => e = .returned (.bool (okS size && hasR 0 n addr size)) ∧ ∃ own2, Step C31 own' wr own2 w' ∧ St w pp rp n r hn own2 w' ⟨s.ow, s.bt, wrR 0 n s.m addr size v, s.cnt⟩ := by
  refine (ram_Write h.2.2 addr size v ha0 ha1 hs0 hs1 hv0 hv1).mono ?_
  rintro e w' ⟨rfl, own2, hS, hM⟩
  have hS' : Step C31 own' wr own2 w' := hS.mono (fun x h => Or.inr h)
  exact ⟨rfl, own2, hS', h.go hS' ⟨h.2.1.step hS (by omega), hM⟩⟩
/-- a law's own block keeps its cells -/
theorem Step.loc {own1 own2 : Nat → Nat} {w1 w2 : World} (h : Step C31 own1 w1 own2 w2) {b : Nat} {t : TypeId} {cs : Array Value} (hb : Blk w1 b t cs ∧ own1 b = 0) : Blk w2 b t cs ∧ own2 b = 0 := h.blk hb.1 hb.2 (by omega)
end
theorem rd_in {n : Nat} {m : Nat → Int} {a : Nat} (h : a + 8 ≤ n * 4096) : rdR 0 n m (a : Int) 8 = (num m a 8, true) := by
  have h1 : hasR 0 n (a : Int) 8 = true := hasR_iff.2 (by omega)
  simp [rdR, h1, okS]
theorem wr_in {n : Nat} {m : Nat → Int} {a : Nat} {v : Int} (h : a + 8 ≤ n * 4096) : wrR 0 n m (a : Int) 8 v = put m a 8 v := by
  have h1 : hasR 0 n (a : Int) 8 = true := hasR_iff.2 (by omega)
  simp [wrR, h1, okS]
theorem ok_in {n : Nat} {a : Nat} (h : a + 8 ≤ n * 4096) : (okS 8 && hasR 0 n (a : Int) 8) = true := by
  have h1 : hasR 0 n (a : Int) 8 = true := hasR_iff.2 (by omega)
  simp [h1, okS]
end Go.Proofs.Ytpodeclkgcgpgaa
