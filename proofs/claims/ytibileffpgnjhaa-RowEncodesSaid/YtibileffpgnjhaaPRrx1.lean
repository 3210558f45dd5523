/-
  Functions of the program as plain Lean functions, each with a proof that its call does what that function says. Written by a program of mine (pr.py), which calls a scratch copy of the kit's print.
-/
import Derived.Test.YtibileffpgnjhaaPRqx3
import Derived.Test.YtibileffpgnjhaaLim
import Derived.Test.YtibileffpgnjhaaPRrx0
namespace Go.Proofs.Ytibileffpgnjhaa.PRr
open Go.RowKit Go.Proofs.YtibileffpgnjhaaW.PrintWords Go.Proofs.YtibileffpgnjhaaW.PrintLast Go.Proofs.YtibileffpgnjhaaW.PrintMore
attribute [local go_sem] max2_int min2_int max_two min_two max_three min_three max_four min_four   -- for this text's walks alone
set_option linter.unusedVariables false
set_option linter.unusedSimpArgs false

/-! ### ramekinref5_even: function 39 (by hand) -/
noncomputable def ramekinref5_even.f (l0 : List (List Int)) (a1 : Int) (a2 : Int) : Option (Bool) := Lim.lim (fun k_ => PRq.ramekinref5_even.f k_ l0 a1 a2)
theorem ramekinref5_even.calls (A0 : Option Addr) (c0 : Nat) (l0 : List (List Int)) (a1 : Int) (a2 : Int) (r : Bool) (w : World) (hr0 : Kd.C (Kd.slice 5 (Kd.int .u8)) w A0 l0.length l0) (hc0 : l0.length ≤ c0) (h : ramekinref5_even.f l0 a1 a2 = some r) :
    Calls Try.prog 39 #[.slice A0 l0.length c0, .int .i64 a1, .int .i64 a2] w fun e w' => e = .returned (.bool r) ∧ Below w.heap.size w w' := by
  obtain ⟨k_, hk_⟩ := Lim.lim_some h
  first
  | exact PRq.ramekinref5_even.calls k_ A0 c0 l0 a1 a2 r w hr0 hc0 hk_
  | exact (PRq.ramekinref5_even.calls k_ A0 c0 l0 a1 a2 r w hr0 hc0 hk_).mono (fun _ _ h_ => ⟨h_.1, Lim.below_of_drewN h_.2⟩)

/-! ### ramekinref2_Exp: function 55 (by hand) -/
noncomputable def ramekinref2_Exp.f (a0 : Int) : Option (Int) := Lim.lim (fun k_ => PRq.ramekinref2_Exp.f k_ a0)
theorem ramekinref2_Exp.calls (a0 : Int) (r : Int) (w : World) (h : ramekinref2_Exp.f a0 = some r) :
    Calls Try.prog 55 #[.int .i64 a0] w fun e w' => e = .returned (.int .u8 r) ∧ Below w.heap.size w w' := by
  obtain ⟨k_, hk_⟩ := Lim.lim_some h
  first
  | exact PRq.ramekinref2_Exp.calls k_ a0 r w hk_
  | exact (PRq.ramekinref2_Exp.calls k_ a0 r w hk_).mono (fun _ _ h_ => ⟨h_.1, Lim.below_of_drewN h_.2⟩)

/-! ### ramekinref2_Mul: function 56 (by hand) -/
noncomputable def ramekinref2_Mul.f (a0 : Int) (a1 : Int) : Option (Int) := Lim.lim (fun k_ => PRq.ramekinref2_Mul.f k_ a0 a1)
theorem ramekinref2_Mul.calls (a0 : Int) (a1 : Int) (r : Int) (w : World) (h : ramekinref2_Mul.f a0 a1 = some r) :
    Calls Try.prog 56 #[.int .u8 a0, .int .u8 a1] w fun e w' => e = .returned (.int .u8 r) ∧ Below w.heap.size w w' := by
  obtain ⟨k_, hk_⟩ := Lim.lim_some h
  first
  | exact PRq.ramekinref2_Mul.calls k_ a0 a1 r w hk_
  | exact (PRq.ramekinref2_Mul.calls k_ a0 a1 r w hk_).mono (fun _ _ h_ => ⟨h_.1, Lim.below_of_drewN h_.2⟩)

end Go.Proofs.Ytibileffpgnjhaa.PRr
