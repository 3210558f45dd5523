/-
  Parts of a proof, laid together by a program of mine (pack.py): Ck.
-/
import Derived.Test.YtibileffpgnjhaaZC35
namespace Go.Proofs.Ytibileffpgnjhaa.Ck
open Go.RowKit Go.Proofs.YtibileffpgnjhaaW.PrintWords
open Go.Proofs.Ytibileffpgnjhaa.Fld Go.Proofs.Ytibileffpgnjhaa.Pl Go.Proofs.Ytibileffpgnjhaa.Ot Go.Proofs.Ytibileffpgnjhaa.Kp Go.Proofs.Ytibileffpgnjhaa.Fw Go.Proofs.Ytibileffpgnjhaa.Cw Go.Proofs.Ytibileffpgnjhaa.Cd Go.Proofs.Ytibileffpgnjhaa.Rf
set_option linter.unusedSimpArgs false
set_option linter.unusedVariables false
theorem str_eq {a b : List Int} (ha : Bytes a) (hb : Bytes b) : ((strOfNums a).toList = (strOfNums b).toList) ↔ a = b := ⟨fun h => Sk.strOfNums_inj ha hb h, fun h => by rw [h]⟩
theorem refcheck_ok (L : List (List Int)) (n d : Nat) (hL : Tw.GoodR n L) (hd : L.length = d + 2) (h4 : 4 ≤ L.length) (h16 : L.length ≤ 16) (hn : n ≤ 1000000) : PRc.ramekinref5_Check.f L = some (decide (sumP (L.take d) n = row L d) && decide (sumQ (L.take d) n = row L (d + 1))) := by
  have he := Rp.even_ok L n 4 16 (fun r h => (hL r h).1) (by omega) (by omega) (by omega) (by omega)
  have e1 : wrap64 ((L.length : Int) - 2) = (d : Int) := by rw [w64 (by omega) (by omega)]; omega
  have e2 : wrap64 ((L.length : Int) - 1) = ((d + 1 : Nat) : Int) := by rw [w64 (by omega) (by omega)]; omega
  have gt := good_take (m := d) hL
  have bt : ∀ r ∈ L.take d, Bytes r := fun r h => (gt r h).2
  have hp : PRc.ramekinref5_Parity.f (L.take d) = some (sumP (L.take d) n, sumQ (L.take d) n) := Lim.lim_ev (fun k => PRr.ramekinref5_Parity.mono _ k) (Rp.refpar_ev (L.take d) n (fun r h => (gt r h).1) bt (by rw [List.length_take]; omega) (by rw [List.length_take]; omega) (by omega))
  have r1 : ∀ j : Nat, PRc.rd_L1 L (j : Int) = row L j := fun j => by unfold PRc.rd_L1 row; simp
  have b1 := bytes_sumP _ n bt
  have b2 := bytes_sumQ _ n bt
  have g1 := Tw.good_row hL (i := d) (by omega)
  have g2 := Tw.good_row hL (i := d + 1) (by omega)
  rw [PRc.ramekinref5_Check.f, show PRc.ramekinref5_even.f L 4 16 = some true from he, Option.bind_some, if_pos rfl, e1, if_pos (by omega), if_pos (by omega), Int.toNat_natCast, hp, Option.bind_some, if_pos (by omega), r1]
  by_cases h1 : sumP (L.take d) n = row L d
  · rw [if_pos ((str_eq b1 g1.2).2 h1), decide_eq_true h1, Bool.true_and, e2, if_pos (by omega), if_pos (by omega), r1]
    by_cases h2 : sumQ (L.take d) n = row L (d + 1)
    · rw [decide_eq_true h2]
      exact congrArg some (beq_iff_eq.2 ((str_eq b2 g2.2).2 h2))
    · rw [decide_eq_false h2]
      exact congrArg some (beq_eq_false_iff_ne.2 (fun h => h2 ((str_eq b2 g2.2).1 h)))
  · rw [if_neg (fun h => h1 ((str_eq b1 g1.2).1 h)), decide_eq_false h1, Bool.false_and]
theorem refcheck_rows (X : List (List Int)) (A : Option Addr) (c n : Nat) (w : World) (hn : n = X.length) (h6 : 6 ≤ X.length) (h8 : X.length ≤ 8) (hg : Tw.GoodR 48 X) (hc : n ≤ c) (hC : Base.RC w A n X) :
    Calls Try.prog 20 #[.slice A n c] w fun e w' => e = .returned (.bool (Base.rightR X)) ∧ Below w.heap.size w w' := by
  subst hn
  exact PRc.ramekinref5_Check.calls A c X _ w hC hc (refcheck_ok X 48 (X.length - 2) hg (by omega) (by omega) (by omega) (by omega))
end Go.Proofs.Ytibileffpgnjhaa.Ck
