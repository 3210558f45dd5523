/-
  Functions of the program as plain Lean functions, each with a proof that its call does what that function says. Written by a program of mine (pr.py), which calls a scratch copy of the kit's print.
-/
import Derived.Test.YtdbnladpogpiiaaPRqx2
import Derived.Test.YtdbnladpogpiiaaLim
import Derived.Test.YtdbnladpogpiiaaPRqx3
import Derived.Test.YtdbnladpogpiiaaPRsx0
namespace Go.Proofs.Ytdbnladpogpiiaa.PRs
open Go.RowKit Go.Proofs.YtdbnladpogpiiaaW.PrintWords Go.Proofs.YtdbnladpogpiiaaW.PrintLast Go.Proofs.YtdbnladpogpiiaaW.PrintMore
attribute [local go_sem] max2_int min2_int max_two min_two max_three min_three max_four min_four   -- for this text's walks alone
set_option linter.unusedVariables false
set_option linter.unusedSimpArgs false

/-! ### ramekinlaw5_known: function 11 (by hand) -/
noncomputable def ramekinlaw5_known.f  : Option (Bool) := Lim.lim (fun k_ => PRq.ramekinlaw5_known.f k_ )
theorem ramekinlaw5_known.calls  (r : Bool) (w : World) (h : ramekinlaw5_known.f  = some r) :
    Calls Try.prog 11 #[] w fun e w' => e = .returned (.bool r) ∧ Below w.heap.size w w' := by
  obtain ⟨k_, hk_⟩ := Lim.lim_some h
  first
  | exact PRq.ramekinlaw5_known.calls k_ r w hk_
  | exact (PRq.ramekinlaw5_known.calls k_ r w hk_).mono (fun _ _ h_ => ⟨h_.1, Lim.below_of_drewN h_.2⟩)

/-! ### ramekinlaw5_within: function 12 (by hand) -/
noncomputable def ramekinlaw5_within.f (a0 : Int) (a1 : Int) : Option (Int) := PRq.ramekinlaw5_within.f a0 a1
theorem ramekinlaw5_within.calls (a0 : Int) (a1 : Int) (r : Int) (w : World) (h : ramekinlaw5_within.f a0 a1 = some r) :
    Calls Try.prog 12 #[.int .i64 a0, .int .i64 a1] w fun e w' => e = .returned (.int .i64 r) ∧ Drawn0 w w' := by
  have hk_ := h
  first
  | exact PRq.ramekinlaw5_within.calls a0 a1 r w hk_
  | exact (PRq.ramekinlaw5_within.calls a0 a1 r w hk_).mono (fun _ _ h_ => ⟨h_.1, Lim.below_of_drewN h_.2⟩)

/-! ### ramekinlaw5_Rows: function 13 (by hand) -/
noncomputable def ramekinlaw5_Rows.f (l0 : List Int) (a1 : Int) (a2 : Int) : Option ((List (List Int))) := Lim.lim (fun k_ => PRq.ramekinlaw5_Rows.f k_ l0 a1 a2)
theorem ramekinlaw5_Rows.calls (A0 : Option Addr) (c0 : Nat) (l0 : List Int) (a1 : Int) (a2 : Int) (r : List (List Int)) (w : World) (hr0 : Kd.C (Kd.int .u8) w A0 l0.length l0) (hc0 : l0.length ≤ c0) (h : ramekinlaw5_Rows.f l0 a1 a2 = some r) :
    Calls Try.prog 13 #[.slice A0 l0.length c0, .int .i64 a1, .int .i64 a2] w fun e w' => ∃ v0_ : Value, e = .returned (v0_) ∧ Kd.N (Kd.slice 5 (Kd.int .u8)) 22 w' w.heap.size (fun k_ => (w.heap.size ≤ k_)) v0_ r ∧ Below w.heap.size w w' := by
  obtain ⟨k_, hk_⟩ := Lim.lim_some h
  first
  | exact PRq.ramekinlaw5_Rows.calls k_ A0 c0 l0 a1 a2 r w hr0 hc0 hk_
  | exact (PRq.ramekinlaw5_Rows.calls k_ A0 c0 l0 a1 a2 r w hr0 hc0 hk_).mono (fun _ _ h_ => ⟨h_.1, Lim.below_of_drewN h_.2⟩)

/-! ### rs_Parity: function 14 (by hand) -/
noncomputable def rs_Parity.f (l0 : List (List Int)) : Option (List Int × List Int) := Lim.lim (fun k_ => PRq.rs_Parity.f k_ l0)
theorem rs_Parity.calls (A0 : Option Addr) (c0 : Nat) (l0 : List (List Int)) (r1 : List Int) (r2 : List Int) (w : World) (hr0 : Kd.C (Kd.slice 5 (Kd.int .u8)) w A0 l0.length l0) (hc0 : l0.length ≤ c0) (h : rs_Parity.f l0 = some (r1, r2)) :
    Calls Try.prog 14 #[.slice A0 l0.length c0] w fun e w' => ∃ v0_ v1_ : Value, e = .returned (.tuple #[v0_, v1_]) ∧ Kd.R (Kd.int .u8) 5 w' w.heap.size (fun k_ => some k_ ≠ (v1_ : Value).ownBlock) v0_ r1 ∧ Kd.R (Kd.int .u8) 5 w' w.heap.size (fun k_ => some k_ ≠ (v0_ : Value).ownBlock) v1_ r2 ∧ Below w.heap.size w w' := by
  obtain ⟨k_, hk_⟩ := Lim.lim_some h
  first
  | exact PRq.rs_Parity.calls k_ A0 c0 l0 r1 r2 w hr0 hc0 hk_
  | exact (PRq.rs_Parity.calls k_ A0 c0 l0 r1 r2 w hr0 hc0 hk_).mono (fun _ _ h_ => ⟨h_.1, Lim.below_of_drewN h_.2⟩)

/-! ### ramekinref2_Mul: function 15 (by hand) -/
noncomputable def ramekinref2_Mul.f (a0 : Int) (a1 : Int) : Option (Int) := Lim.lim (fun k_ => PRq.ramekinref2_Mul.f k_ a0 a1)
theorem ramekinref2_Mul.calls (a0 : Int) (a1 : Int) (r : Int) (w : World) (h : ramekinref2_Mul.f a0 a1 = some r) :
    Calls Try.prog 15 #[.int .u8 a0, .int .u8 a1] w fun e w' => e = .returned (.int .u8 r) ∧ Below w.heap.size w w' := by
  obtain ⟨k_, hk_⟩ := Lim.lim_some h
  first
  | exact PRq.ramekinref2_Mul.calls k_ a0 a1 r w hk_
  | exact (PRq.ramekinref2_Mul.calls k_ a0 a1 r w hk_).mono (fun _ _ h_ => ⟨h_.1, Lim.below_of_drewN h_.2⟩)

/-! ### ramekinref2_Exp: function 16 (by hand) -/
noncomputable def ramekinref2_Exp.f (a0 : Int) : Option (Int) := Lim.lim (fun k_ => PRq.ramekinref2_Exp.f k_ a0)
theorem ramekinref2_Exp.calls (a0 : Int) (r : Int) (w : World) (h : ramekinref2_Exp.f a0 = some r) :
    Calls Try.prog 16 #[.int .i64 a0] w fun e w' => e = .returned (.int .u8 r) ∧ Below w.heap.size w w' := by
  obtain ⟨k_, hk_⟩ := Lim.lim_some h
  first
  | exact PRq.ramekinref2_Exp.calls k_ a0 r w hk_
  | exact (PRq.ramekinref2_Exp.calls k_ a0 r w hk_).mono (fun _ _ h_ => ⟨h_.1, Lim.below_of_drewN h_.2⟩)

end Go.Proofs.Ytdbnladpogpiiaa.PRs
