/-
  Functions of the program as plain Lean functions, each with a proof that its call does what that function says. Written by a program of mine (pr.py), which calls a scratch copy of the kit's print.
-/
import Derived.Test.YtdbnladpogpiiaaPRqx2
import Derived.Test.YtdbnladpogpiiaaLim
import Derived.Test.YtdbnladpogpiiaaPRrx3
import Derived.Test.YtdbnladpogpiiaaFw
import Derived.Test.YtdbnladpogpiiaaSm
import Derived.Test.YtdbnladpogpiiaaPRux0
namespace Go.Proofs.Ytdbnladpogpiiaa.PRu
open Go.RowKit Go.Proofs.YtdbnladpogpiiaaW.PrintWords Go.Proofs.YtdbnladpogpiiaaW.PrintLast Go.Proofs.YtdbnladpogpiiaaW.PrintMore
attribute [local go_sem] max2_int min2_int max_two min_two max_three min_three max_four min_four   -- for this text's walks alone
set_option linter.unusedVariables false
set_option linter.unusedSimpArgs false

/-! ### ramekinlaw5_known: function 11 (by hand) -/
noncomputable def ramekinlaw5_known.f  : Option (Bool) := Lim.lim (fun k_ => PRq.ramekinlaw5_known.f k_ )
theorem ramekinlaw5_known.calls  (r : Bool) (w : World) (h : ramekinlaw5_known.f  = some r) :
    Calls Try.prog 11 #[] w fun e w' => e = .returned (.bool r) ∧ Below w.heap.size w w' := by
  obtain ⟨k_, hk_⟩ := Lim.lim_some h
  first
  | exact PRq.ramekinlaw5_known.calls k_ r w hk_
  | exact (PRq.ramekinlaw5_known.calls k_ r w hk_).mono (fun _ _ h_ => ⟨h_.1, Lim.below_of_drewN h_.2⟩)

/-! ### ramekinlaw5_within: function 12 (by hand) -/
noncomputable def ramekinlaw5_within.f (a0 : Int) (a1 : Int) : Option (Int) := PRq.ramekinlaw5_within.f a0 a1
theorem ramekinlaw5_within.calls (a0 : Int) (a1 : Int) (r : Int) (w : World) (h : ramekinlaw5_within.f a0 a1 = some r) :
    Calls Try.prog 12 #[.int .i64 a0, .int .i64 a1] w fun e w' => e = .returned (.int .i64 r) ∧ Drawn0 w w' := by
  have hk_ := h
  first
  | exact PRq.ramekinlaw5_within.calls a0 a1 r w hk_
  | exact (PRq.ramekinlaw5_within.calls a0 a1 r w hk_).mono (fun _ _ h_ => ⟨h_.1, Lim.below_of_drewN h_.2⟩)

/-! ### ramekinlaw5_Rows: function 13 (by hand) -/
noncomputable def ramekinlaw5_Rows.f (l0 : List Int) (a1 : Int) (a2 : Int) : Option ((List (List Int))) := Lim.lim (fun k_ => PRq.ramekinlaw5_Rows.f k_ l0 a1 a2)
theorem ramekinlaw5_Rows.calls (A0 : Option Addr) (c0 : Nat) (l0 : List Int) (a1 : Int) (a2 : Int) (r : List (List Int)) (w : World) (hr0 : Kd.C (Kd.int .u8) w A0 l0.length l0) (hc0 : l0.length ≤ c0) (h : ramekinlaw5_Rows.f l0 a1 a2 = some r) :
    Calls Try.prog 13 #[.slice A0 l0.length c0, .int .i64 a1, .int .i64 a2] w fun e w' => ∃ v0_ : Value, e = .returned (v0_) ∧ Kd.N (Kd.slice 5 (Kd.int .u8)) 22 w' w.heap.size (fun k_ => (w.heap.size ≤ k_)) v0_ r ∧ Below w.heap.size w w' := by
  obtain ⟨k_, hk_⟩ := Lim.lim_some h
  first
  | exact PRq.ramekinlaw5_Rows.calls k_ A0 c0 l0 a1 a2 r w hr0 hc0 hk_
  | exact (PRq.ramekinlaw5_Rows.calls k_ A0 c0 l0 a1 a2 r w hr0 hc0 hk_).mono (fun _ _ h_ => ⟨h_.1, Lim.below_of_drewN h_.2⟩)

/-! ### rs_Parity: function 14 (by hand) -/
noncomputable def rs_Parity.f (l0 : List (List Int)) : Option (List Int × List Int) := Lim.lim (fun k_ => PRq.rs_Parity.f k_ l0)
theorem rs_Parity.calls (A0 : Option Addr) (c0 : Nat) (l0 : List (List Int)) (r1 : List Int) (r2 : List Int) (w : World) (hr0 : Kd.C (Kd.slice 5 (Kd.int .u8)) w A0 l0.length l0) (hc0 : l0.length ≤ c0) (h : rs_Parity.f l0 = some (r1, r2)) :
    Calls Try.prog 14 #[.slice A0 l0.length c0] w fun e w' => ∃ v0_ v1_ : Value, e = .returned (.tuple #[v0_, v1_]) ∧ Kd.R (Kd.int .u8) 5 w' w.heap.size (fun k_ => some k_ ≠ (v1_ : Value).ownBlock) v0_ r1 ∧ Kd.R (Kd.int .u8) 5 w' w.heap.size (fun k_ => some k_ ≠ (v0_ : Value).ownBlock) v1_ r2 ∧ Below w.heap.size w w' := by
  obtain ⟨k_, hk_⟩ := Lim.lim_some h
  first
  | exact PRq.rs_Parity.calls k_ A0 c0 l0 r1 r2 w hr0 hc0 hk_
  | exact (PRq.rs_Parity.calls k_ A0 c0 l0 r1 r2 w hr0 hc0 hk_).mono (fun _ _ h_ => ⟨h_.1, Lim.below_of_drewN h_.2⟩)

/-! ### rs_Check: function 19 (by hand) -/
noncomputable def rs_Check.f (l0 : List (List Int)) : Option (Bool) := Lim.lim (fun k_ => PRr.rs_Check.f k_ l0)
theorem rs_Check.calls (A0 : Option Addr) (c0 : Nat) (l0 : List (List Int)) (r : Bool) (w : World) (hr0 : Kd.C (Kd.slice 5 (Kd.int .u8)) w A0 l0.length l0) (hc0 : l0.length ≤ c0) (h : rs_Check.f l0 = some r) :
    Calls Try.prog 19 #[.slice A0 l0.length c0] w fun e w' => e = .returned (.bool r) ∧ Below w.heap.size w w' := by
  obtain ⟨k_, hk_⟩ := Lim.lim_some h
  first
  | exact PRr.rs_Check.calls k_ A0 c0 l0 r w hr0 hc0 hk_
  | exact (PRr.rs_Check.calls k_ A0 c0 l0 r w hr0 hc0 hk_).mono (fun _ _ h_ => ⟨h_.1, Lim.below_of_drewN h_.2⟩)

/-! ### rs_Fix: function 22 (by hand) -/
noncomputable def rs_Fix.f (l0 : List (List Int)) (l1 : List Int) : Option ((List (List Int)) × Bool) := Fld.fixF l0 l1
theorem rs_Fix.calls (A0 : Option Addr) (c0 : Nat) (l0 : List (List Int)) (A1 : Option Addr) (c1 : Nat) (l1 : List Int) (r1 : List (List Int)) (r2 : Bool) (w : World) (hr0 : Kd.C (Kd.slice 5 (Kd.int .u8)) w A0 l0.length l0) (hc0 : l0.length ≤ c0) (hr1 : Kd.C (Kd.int .i64) w A1 l1.length l1) (hc1 : l1.length ≤ c1) (h : rs_Fix.f l0 l1 = some (r1, r2)) :
    Calls Try.prog 22 #[.slice A0 l0.length c0, .slice A1 l1.length c1] w fun e w' => ∃ v0_ : Value, e = .returned (.tuple #[v0_, .bool r2]) ∧ Kd.N (Kd.slice 5 (Kd.int .u8)) 22 w' w.heap.size (fun k_ => (w.heap.size ≤ k_)) v0_ r1 ∧ Below w.heap.size w w' := Fw.fix_any A0 c0 l0 A1 c1 l1 r1 r2 w hr0 hc0 hr1 hc1 h

/-! ### ramekinlaw5_same: function 23 (by hand) -/
noncomputable def ramekinlaw5_same.f (l0 : List (List Int)) (l1 : List (List Int)) : Option (Bool) := open Classical in if Sm.BytL l0 ∧ Sm.BytL l1 ∧ l0.length ≤ 1000000 ∧ l1.length ≤ 1000000 then some (decide (l0 = l1)) else none
theorem ramekinlaw5_same.calls (A0 : Option Addr) (c0 : Nat) (l0 : List (List Int)) (A1 : Option Addr) (c1 : Nat) (l1 : List (List Int)) (r : Bool) (w : World) (hr0 : Kd.C (Kd.slice 5 (Kd.int .u8)) w A0 l0.length l0) (hc0 : l0.length ≤ c0) (hr1 : Kd.C (Kd.slice 5 (Kd.int .u8)) w A1 l1.length l1) (hc1 : l1.length ≤ c1) (h : ramekinlaw5_same.f l0 l1 = some r) :
    Calls Try.prog 23 #[.slice A0 l0.length c0, .slice A1 l1.length c1] w fun e w' => e = .returned (.bool r) ∧ Drawn0 w w' := by
  unfold ramekinlaw5_same.f at h
  split at h
  · rename_i hc
    simp only [Option.some.injEq] at h
    have := Sm.same_calls A0 c0 l0 A1 c1 l1 w hr0 hr1 hc.1 hc.2.1 hc.2.2.1 hc.2.2.2
    rw [← h]
    exact this.mono fun e w' ⟨h1, h2⟩ => ⟨by rw [h1], h2⟩
  · cases h

end Go.Proofs.Ytdbnladpogpiiaa.PRu
