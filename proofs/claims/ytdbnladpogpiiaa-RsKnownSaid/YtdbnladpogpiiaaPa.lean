/-
  What the laws of chapter 5 call, in the end: without a number of rounds.
-/
import Derived.Test.YtdbnladpogpiiaaPRsx1
import Derived.Test.YtdbnladpogpiiaaPl
namespace Go.Proofs.Ytdbnladpogpiiaa.Pa
open Go.RowKit Go.Proofs.YtdbnladpogpiiaaW.PrintWords Go.Proofs.YtdbnladpogpiiaaW.PrintLast Go.Proofs.Ytdbnladpogpiiaa.PRs Go.Proofs.Ytdbnladpogpiiaa.Fld Go.Proofs.Ytdbnladpogpiiaa.Pl
set_option linter.unusedSimpArgs false
set_option linter.unusedVariables false
theorem known_s : ramekinlaw5_known.f = some true := Lim.lim_ev (fun k => PRq.ramekinlaw5_known.mono k) known_ev
theorem within_s (a n : Int) (hn : 1 ≤ n) (hn2 : n ≤ 4611686018427387904) : ramekinlaw5_within.f a n = some (a % n) := within_f a n hn hn2
theorem rows_s (l0 : List Int) (m s : Nat) (hm : m ≤ 1000) (hs : s ≤ 1000) (hl : l0.length ≤ 9223372036854775807) : ∃ L, ramekinlaw5_Rows.f l0 (m : Int) (s : Int) = some L ∧ L.length = m ∧ (∀ r ∈ L, r.length = s) ∧ (∀ r ∈ L, Bytes r) := by
  obtain ⟨L, h, h2⟩ := rows_ev l0 m s hm hs hl
  exact ⟨L, Lim.lim_ev (fun k => PRq.ramekinlaw5_Rows.mono _ _ _ k) h, h2⟩
theorem parity_s (L : List (List Int)) (n : Nat) (hn : ∀ r ∈ L, r.length = n) (hL : ∀ r ∈ L, Bytes r) (h2 : 2 ≤ L.length) (h14 : L.length ≤ 14) (hn2 : n ≤ 281474976710656) : rs_Parity.f L = some (sumP L n, sumQ L n) :=
  Lim.lim_ev (fun k => PRq.rs_Parity.mono _ k) (parity_ev L n hn hL h2 h14 hn2)
theorem mul_s {x y : Int} (hx : Byt x) (hy : Byt y) : ramekinref2_Mul.f x y = some (mulI x y) := Lim.lim_ev (fun k => PRq.ramekinref2_Mul.mono _ _ k) (refmul_ev hx hy)
theorem exp_s (n : Nat) (hn : n < 255) : ramekinref2_Exp.f (n : Int) = some (expI n) := Lim.lim_ev (fun k => PRq.ramekinref2_Exp.mono _ k) (refexp_ev n hn)
theorem u8_of {n : Int} (h : (Lit.int .u8 n).wf = true) : Byt n := by
  have : 0 ≤ n ∧ n ≤ 255 := by simpa [Lit.wf, IntKind.min, IntKind.max, IntKind.signed, IntKind.bits] using h
  exact ⟨this.1, by omega⟩
theorem i64_of {n : Int} (h : (Lit.int .i64 n).wf = true) : -9223372036854775808 ≤ n ∧ n ≤ 9223372036854775807 := by simpa [Lit.wf, IntKind.min, IntKind.max, IntKind.signed, IntKind.bits] using h
theorem mod_nat (a : Int) (n : Nat) (hn : 1 ≤ n) : ∃ m : Nat, a % (n : Int) = (m : Int) ∧ m < n := by
  have h2 := Int.emod_nonneg a (b := (n : Int)) (by omega)
  have h3 := Int.emod_lt_of_pos a (b := (n : Int)) (by omega)
  exact ⟨(a % (n : Int)).toNat, by omega, by omega⟩
theorem rd_zero (xs : List Int) : rd xs 0 = at_ xs 0 := rd_nat xs 0
theorem rdL2_nat (L : List (List Int)) (j : Nat) : rd_L2 L (j : Int) = row L j := by unfold rd_L2 row; simp
theorem bytes_of {l : List Int} (h : ∀ x ∈ l, (Lit.int .u8 x).wf = true) : Bytes l := fun x hx => u8_of (h x hx)
end Go.Proofs.Ytdbnladpogpiiaa.Pa
