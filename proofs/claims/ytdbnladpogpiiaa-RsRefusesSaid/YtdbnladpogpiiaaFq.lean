/-
  The document's Fix: what it answers.
-/
import Derived.Test.YtdbnladpogpiiaaFr
namespace Go.Proofs.Ytdbnladpogpiiaa.Fr
open Go.RowKit Go.Proofs.YtdbnladpogpiiaaW.PrintWords Go.Proofs.YtdbnladpogpiiaaW.PrintLast
open Go.Proofs.Ytdbnladpogpiiaa.Fld
set_option linter.unusedVariables false
theorem fix_doc (A0 : Option Addr) (c0 : Nat) (l0 : List (List Int)) (A1 : Option Addr) (c1 : Nat) (l1 : List Int) (r1 : List (List Int)) (r2 : Bool) (w : World) (hr0 : Kd.C (Kd.slice 5 (Kd.int .u8)) w A0 l0.length l0) (hc0 : l0.length ≤ c0) (hr1 : Kd.C (Kd.int .i64) w A1 l1.length l1) (hc1 : l1.length ≤ c1) (h : fixF l0 l1 = some (r1, r2)) :
    Calls Try.prog 24 #[.slice A0 l0.length c0, .slice A1 l1.length c1] w fun e w' => ∃ v0_ : Value, e = .returned (.tuple #[v0_, .bool r2]) ∧ Kd.N (Kd.slice 5 (Kd.int .u8)) 22 w' w.heap.size (fun k_ => (w.heap.size ≤ k_)) v0_ r1 ∧ Below w.heap.size w w' := by
  unfold fixF at h
  by_cases hc : (∀ r ∈ l0, ∀ x ∈ r, Byt x) ∧ (∀ r ∈ l0, r.length ≤ 1000000) ∧ l1.length ≤ 1000000 ∧ l0.length ≤ 1000000
  · rw [if_pos hc] at h
    refine (reffix_any A0 A1 c0 c1 l0 l1 w hc.2.2.2 hc.2.2.1 hr0 hr1 hc0 hc1 hc.1 hc.2.1).mono ?_
    rintro e w' ⟨v, he, hN, hB⟩
    by_cases hm : mayB l0 l1 = true
    · rw [if_pos hm] at h hN
      cases h
      rw [hm] at he
      exact ⟨v, he, hN, hB⟩
    · rw [if_neg hm] at h hN
      cases h
      rw [Bool.eq_false_iff.2 hm] at he
      exact ⟨v, he, hN, hB⟩
  · rw [if_neg hc] at h
    cases h
end Go.Proofs.Ytdbnladpogpiiaa.Fr
