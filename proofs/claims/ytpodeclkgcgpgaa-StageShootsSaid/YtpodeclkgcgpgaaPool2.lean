import Derived.Test.YtpodeclkgcgpgaaPool
namespace Go.Proofs.Ytpodeclkgcgpgaa
set_option linter.unusedVariables false
open Go.RowKit
set_option maxRecDepth 100000

section
variable {own own' : Nat → Nat} {c pp rp qo qb n : Nat} {res harts : Int} {d : Bool} {ow bt : List Int} {w w' : World}
theorem PoolIn.cellO (h : PoolIn own c w pp rp qo qb n res harts d ow bt) (k : Nat) : w.cell? ⟨qo, k, none⟩ = ow[k]?.map (.int .i64) := by
  rw [h.bo.cell]; simp
theorem PoolIn.c3 (h : PoolIn own c w pp rp qo qb n res harts d ow bt) : w.cell? ⟨pp, 3, none⟩ = some (.slice (some ⟨qo, 0, none⟩) n n) := h.bp.cell 3
theorem PoolIn.c2 (h : PoolIn own c w pp rp qo qb n res harts d ow bt) : w.cell? ⟨pp, 2, none⟩ = some (.int .i64 harts) := h.bp.cell 2
theorem PoolIn.c1 (h : PoolIn own c w pp rp qo qb n res harts d ow bt) : w.cell? ⟨pp, 1, none⟩ = some (.int .i64 res) := h.bp.cell 1
theorem PoolIn.c0 (h : PoolIn own c w pp rp qo qb n res harts d ow bt) : w.cell? ⟨pp, 0, none⟩ = some (.pointer (some ⟨rp, 0, none⟩)) := h.bp.cell 0

def thereP (n : Nat) (f : Int) : Bool := decide (0 ≤ f ∧ f < n)
theorem thereP_iff {n : Nat} {f : Int} : thereP n f = true ↔ 0 ≤ f ∧ f < n := by simp [thereP]
theorem pool_there {A : Option Addr} {cap : Nat} (h3 : w.cell? ⟨pp, 3, none⟩ = some (.slice A n cap)) (f : Int) :
    Calls Try.prog 80 #[.pointer (some ⟨pp, 0, none⟩), .int .i64 f] w fun e w' => e = .returned (.bool (thereP n f)) ∧ w = w' := by
  go_enter Try.func80, Try.ntmps80
  go_wp2
  all_goals go_ret
  all_goals (refine ⟨?_, rfl⟩; simp_all [thereP] <;> omega)

/-- a frame's owner -/
def ownerP (ow : List Int) (f : Int) : Int := if thereP ow.length f then ow.getD f.toNat 0 else -1
theorem pool_Owner (h : PoolAt own c w pp rp n res harts ow bt) (f : Int) :
    Calls Try.prog 24 #[.pointer (some ⟨pp, 0, none⟩), .int .i64 f] w fun e w' => e = .returned (.int .i64 (ownerP ow f)) ∧ w = w' := by
  obtain ⟨qo, qb, d, h⟩ := h
  have h3 := h.c3
  have hlo := h.lo
  have HT := Lib.hid (pool_there h3 f)
  by_cases hf : thereP n f = true
  · obtain ⟨f0, f1⟩ := thereP_iff.1 hf
    obtain ⟨k, rfl⟩ := Int.eq_ofNat_of_zero_le f0
    have hk : k < ow.length := by omega
    have hc := h.cellO k
    obtain ⟨v, hv⟩ : ∃ v, ow[k]? = some v := ⟨_, List.getElem?_eq_getElem hk⟩
    rw [hv, Option.map_some] at hc
    have hr : ownerP ow (k : Int) = v := by simp [ownerP, hlo, hf, hv]
    rw [hr]
    clear hv hr
    clear h
    go_enter Try.func24, Try.ntmps24
    go_wp2_with fail
    refine HT.out.mono ?_; rintro e w' ⟨rfl, rfl⟩; rw [hf]
    go_wp2
    go_ret
    exact ⟨rfl, rfl⟩
  · have hf : thereP n f = false := by simpa using hf
    have hr : ownerP ow f = -1 := by simp [ownerP, hlo, hf]
    rw [hr]
    clear h
    go_enter Try.func24, Try.ntmps24
    go_wp2_with fail
    refine HT.out.mono ?_; rintro e w' ⟨rfl, rfl⟩; rw [hf]
    go_wp2
    go_ret
    exact ⟨rfl, rfl⟩
theorem PoolIn.cellB (h : PoolIn own c w pp rp qo qb n res harts true ow bt) (k : Nat) : w.cell? ⟨qb, k, none⟩ = bt[k]?.map (.int .u64) := by
  rw [(h.bb rfl).1.cell]; simp
/-- what a frame waits for -/
def waitsP (bt : List Int) (f : Int) : Int := if thereP bt.length f then bt.getD f.toNat 0 else 0
theorem pool_Waits (h : PoolAt own c w pp rp n res harts ow bt) (f : Int) :
    Calls Try.prog 25 #[.pointer (some ⟨pp, 0, none⟩), .int .i64 f] w fun e w' => e = .returned (.int .u64 (waitsP bt f)) ∧ ∃ own', Step (· = c) own w own' w' ∧ PoolAt own' c w' pp rp n res harts ow bt := by
  obtain ⟨qo, qb, d, h⟩ := h
  have h3 := h.c3
  have hlb := h.lb
  have HT := Lib.hid (pool_there h3 f)
  have HP := Lib.hid h
  clear h
  by_cases hf : thereP n f = true
  · obtain ⟨f0, f1⟩ := thereP_iff.1 hf
    obtain ⟨k, rfl⟩ := Int.eq_ofNat_of_zero_le f0
    have hk : k < bt.length := by omega
    obtain ⟨v, hv⟩ : ∃ v, bt[k]? = some v := ⟨_, List.getElem?_eq_getElem hk⟩
    have hr : waitsP bt (k : Int) = v := by simp [waitsP, hlb, hf, hv]
    rw [hr]
    have hvv := Lib.hid hv
    clear hv hr
    go_enter Try.func25, Try.ntmps25
    go_wp2_with fail
    refine HT.out.mono ?_; rintro e w' ⟨rfl, rfl⟩; rw [hf]
    go_wp2_with fail
    refine (pool_waits HP.out).mono ?_; rintro e w1 ⟨qb', own1, rfl, hS, hP⟩
    have hc := hP.cellB k
    rw [hvv.out, Option.map_some] at hc
    have H1 := Lib.hid (And.intro hS hP)
    clear hS hP
    go_wp2_with fail
    refine (au_Load _ _ _ hc).mono ?_; rintro e w2 ⟨rfl, rfl⟩
    go_wp2
    go_ret
    exact ⟨rfl, own1, H1.out.1, _, _, _, H1.out.2⟩
  · have hf : thereP n f = false := by simpa using hf
    have hr : waitsP bt f = 0 := by simp [waitsP, hlb, hf]
    rw [hr]
    go_enter Try.func25, Try.ntmps25
    go_wp2_with fail
    refine HT.out.mono ?_; rintro e w' ⟨rfl, rfl⟩; rw [hf]
    go_wp2
    go_ret
    exact ⟨rfl, own, Step.refl _ _ _, _, _, _, HP.out⟩
end
end Go.Proofs.Ytpodeclkgcgpgaa
