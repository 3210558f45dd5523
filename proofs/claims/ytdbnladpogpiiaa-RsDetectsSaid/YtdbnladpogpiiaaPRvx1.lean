/-
  Functions of the program as plain Lean functions, each with a proof that its call does what that function says. Written by a program of mine (pr.py), which calls a scratch copy of the kit's print.
-/
import Derived.Test.YtdbnladpogpiiaaPRqx2
import Derived.Test.YtdbnladpogpiiaaLim
import Derived.Test.YtdbnladpogpiiaaPRrx2
import Derived.Test.YtdbnladpogpiiaaPRrx3
import Derived.Test.YtdbnladpogpiiaaFw
import Derived.Test.YtdbnladpogpiiaaPRvx0
namespace Go.Proofs.Ytdbnladpogpiiaa.PRv
open Go.RowKit Go.Proofs.YtdbnladpogpiiaaW.PrintWords Go.Proofs.YtdbnladpogpiiaaW.PrintLast Go.Proofs.YtdbnladpogpiiaaW.PrintMore
attribute [local go_sem] max2_int min2_int max_two min_two max_three min_three max_four min_four   -- for this text's walks alone
set_option linter.unusedVariables false
set_option linter.unusedSimpArgs false

/-! ### ramekinlaw5_known: function 11 (by hand) -/
noncomputable def ramekinlaw5_known.f  : Option (Bool) := Lim.lim (fun k_ => PRq.ramekinlaw5_known.f k_ )
theorem ramekinlaw5_known.calls  (r : Bool) (w : World) (h : ramekinlaw5_known.f  = some r) :
    Calls Try.prog 11 #[] w fun e w' => e = .returned (.bool r) ∧ Below w.heap.size w w' := by
  obtain ⟨k_, hk_⟩ := Lim.lim_some h
  first
  | exact PRq.ramekinlaw5_known.calls k_ r w hk_
  | exact (PRq.ramekinlaw5_known.calls k_ r w hk_).mono (fun _ _ h_ => ⟨h_.1, Lim.below_of_drewN h_.2⟩)

/-! ### ramekinlaw5_within: function 12 (by hand) -/
noncomputable def ramekinlaw5_within.f (a0 : Int) (a1 : Int) : Option (Int) := PRq.ramekinlaw5_within.f a0 a1
theorem ramekinlaw5_within.calls (a0 : Int) (a1 : Int) (r : Int) (w : World) (h : ramekinlaw5_within.f a0 a1 = some r) :
    Calls Try.prog 12 #[.int .i64 a0, .int .i64 a1] w fun e w' => e = .returned (.int .i64 r) ∧ Drawn0 w w' := by
  have hk_ := h
  first
  | exact PRq.ramekinlaw5_within.calls a0 a1 r w hk_
  | exact (PRq.ramekinlaw5_within.calls a0 a1 r w hk_).mono (fun _ _ h_ => ⟨h_.1, Lim.below_of_drewN h_.2⟩)

/-! ### ramekinlaw5_Rows: function 13 (by hand) -/
noncomputable def ramekinlaw5_Rows.f (l0 : List Int) (a1 : Int) (a2 : Int) : Option ((List (List Int))) := Lim.lim (fun k_ => PRq.ramekinlaw5_Rows.f k_ l0 a1 a2)
theorem ramekinlaw5_Rows.calls (A0 : Option Addr) (c0 : Nat) (l0 : List Int) (a1 : Int) (a2 : Int) (r : List (List Int)) (w : World) (hr0 : Kd.C (Kd.int .u8) w A0 l0.length l0) (hc0 : l0.length ≤ c0) (h : ramekinlaw5_Rows.f l0 a1 a2 = some r) :
    Calls Try.prog 13 #[.slice A0 l0.length c0, .int .i64 a1, .int .i64 a2] w fun e w' => ∃ v0_ : Value, e = .returned (v0_) ∧ Kd.N (Kd.slice 5 (Kd.int .u8)) 22 w' w.heap.size (fun k_ => (w.heap.size ≤ k_)) v0_ r ∧ Below w.heap.size w w' := by
  obtain ⟨k_, hk_⟩ := Lim.lim_some h
  first
  | exact PRq.ramekinlaw5_Rows.calls k_ A0 c0 l0 a1 a2 r w hr0 hc0 hk_
  | exact (PRq.ramekinlaw5_Rows.calls k_ A0 c0 l0 a1 a2 r w hr0 hc0 hk_).mono (fun _ _ h_ => ⟨h_.1, Lim.below_of_drewN h_.2⟩)

/-! ### ramekinref5_Parity: function 18 (by hand) -/
noncomputable def ramekinref5_Parity.f (l0 : List (List Int)) : Option (List Int × List Int) := Lim.lim (fun k_ => PRr.ramekinref5_Parity.f k_ l0)
theorem ramekinref5_Parity.calls (A0 : Option Addr) (c0 : Nat) (l0 : List (List Int)) (r1 : List Int) (r2 : List Int) (w : World) (hr0 : Kd.C (Kd.slice 5 (Kd.int .u8)) w A0 l0.length l0) (hc0 : l0.length ≤ c0) (h : ramekinref5_Parity.f l0 = some (r1, r2)) :
    Calls Try.prog 18 #[.slice A0 l0.length c0] w fun e w' => ∃ v0_ v1_ : Value, e = .returned (.tuple #[v0_, v1_]) ∧ Kd.R (Kd.int .u8) 5 w' w.heap.size (fun k_ => some k_ ≠ (v1_ : Value).ownBlock) v0_ r1 ∧ Kd.R (Kd.int .u8) 5 w' w.heap.size (fun k_ => some k_ ≠ (v0_ : Value).ownBlock) v1_ r2 ∧ Below w.heap.size w w' := by
  obtain ⟨k_, hk_⟩ := Lim.lim_some h
  first
  | exact PRr.ramekinref5_Parity.calls k_ A0 c0 l0 r1 r2 w hr0 hc0 hk_
  | exact (PRr.ramekinref5_Parity.calls k_ A0 c0 l0 r1 r2 w hr0 hc0 hk_).mono (fun _ _ h_ => ⟨h_.1, Lim.below_of_drewN h_.2⟩)

/-! ### rs_Check: function 19 (by hand) -/
noncomputable def rs_Check.f (l0 : List (List Int)) : Option (Bool) := Lim.lim (fun k_ => PRr.rs_Check.f k_ l0)
theorem rs_Check.calls (A0 : Option Addr) (c0 : Nat) (l0 : List (List Int)) (r : Bool) (w : World) (hr0 : Kd.C (Kd.slice 5 (Kd.int .u8)) w A0 l0.length l0) (hc0 : l0.length ≤ c0) (h : rs_Check.f l0 = some r) :
    Calls Try.prog 19 #[.slice A0 l0.length c0] w fun e w' => e = .returned (.bool r) ∧ Below w.heap.size w w' := by
  obtain ⟨k_, hk_⟩ := Lim.lim_some h
  first
  | exact PRr.rs_Check.calls k_ A0 c0 l0 r w hr0 hc0 hk_
  | exact (PRr.rs_Check.calls k_ A0 c0 l0 r w hr0 hc0 hk_).mono (fun _ _ h_ => ⟨h_.1, Lim.below_of_drewN h_.2⟩)

/-! ### rs_Fix: function 22 (by hand) -/
noncomputable def rs_Fix.f (l0 : List (List Int)) (l1 : List Int) : Option ((List (List Int)) × Bool) := Fld.fixF l0 l1
theorem rs_Fix.calls (A0 : Option Addr) (c0 : Nat) (l0 : List (List Int)) (A1 : Option Addr) (c1 : Nat) (l1 : List Int) (r1 : List (List Int)) (r2 : Bool) (w : World) (hr0 : Kd.C (Kd.slice 5 (Kd.int .u8)) w A0 l0.length l0) (hc0 : l0.length ≤ c0) (hr1 : Kd.C (Kd.int .i64) w A1 l1.length l1) (hc1 : l1.length ≤ c1) (h : rs_Fix.f l0 l1 = some (r1, r2)) :
    Calls Try.prog 22 #[.slice A0 l0.length c0, .slice A1 l1.length c1] w fun e w' => ∃ v0_ : Value, e = .returned (.tuple #[v0_, .bool r2]) ∧ Kd.N (Kd.slice 5 (Kd.int .u8)) 22 w' w.heap.size (fun k_ => (w.heap.size ≤ k_)) v0_ r1 ∧ Below w.heap.size w w' := Fw.fix_any A0 c0 l0 A1 c1 l1 r1 r2 w hr0 hc0 hr1 hc1 h

/-! ### ramekinlaw5_RsDetects: function 8 -/
noncomputable def ramekinlaw5_RsDetects.l0 : Nat → List Int → List (List Int) → Int → Int → List Int → Bool → Int → Option (Bool)
  | 0, _, _, _, _, _, _, _ => none
  | k + 1, x4, x14, x15, x16, x17, x18, x19 => if x19 < (x4.length : Int) then (if x19 < 8 then (if 0 ≤ x19 then (if x19 < (x17.length : Int) then ((some (x17.set (x19 : Int).toNat (Go.bits .xor .u8 (rd x17 x19) (rd x4 x19)) : List Int)).bind fun y159 => (if x18 = true then (ramekinlaw5_RsDetects.l0 k x4 x14 x15 x16 y159 true (wrap64 (x19 + 1))) else (ramekinlaw5_RsDetects.l0 k x4 x14 x15 x16 y159 ((rd x4 x19) != 0) (wrap64 (x19 + 1))))) else (none)) else (none)) else (if 0 ≤ x16 then (if x16 < (x14.length : Int) then ((rs_Fix.f (x14.set (x16 : Int).toNat x17) (([x15] : List Int))).bind fun bt165 => (if bt165.2 = true then ((rs_Check.f bt165.1).bind fun t169 => (some (t169 == (!x18)))) else (some false))) else (none)) else (none))) else (if 0 ≤ x16 then (if x16 < (x14.length : Int) then ((rs_Fix.f (x14.set (x16 : Int).toNat x17) (([x15] : List Int))).bind fun bt174 => (if bt174.2 = true then ((rs_Check.f bt174.1).bind fun t178 => (some (t178 == (!x18)))) else (some false))) else (none)) else (none))
noncomputable def ramekinlaw5_RsDetects.f (k : Nat) (l0 : List Int) (a1 : Int) (a2 : Int) (a3 : Int) (l4 : List Int) : Option (Bool) := (ramekinlaw5_known.f).bind fun t125 => (if t125 = true then ((ramekinlaw5_within.f a1 5).bind fun t126 => ((ramekinlaw5_Rows.f l0 (wrap64 (4 + t126)) 8).bind fun t127 => ((ramekinref5_Parity.f t127).bind fun bt130 => ((some (([] : List (List Int)) : List (List Int))).bind fun y136 => (if y136.length + t127.length < 5864062014805 then ((some (y136 ++ t127 : List (List Int))).bind fun y139 => ((some (([bt130.1, bt130.2] : List (List Int)) : List (List Int))).bind fun y142 => (if y139.length + y142.length < 5864062014805 then ((some (y139 ++ y142 : List (List Int))).bind fun y145 => ((ramekinlaw5_within.f a2 (y145.length : Int)).bind fun t148 => ((ramekinlaw5_within.f a3 (wrap64 ((y145.length : Int) - 1))).bind fun t149 => (if (y145.length : Int) = 0 then (none) else ((some (([] : List Int) : List Int)).bind fun y150 => (if 0 ≤ (Int.tmod (wrap64 ((wrap64 (t148 + 1)) + t149)) (y145.length : Int)) then (if (Int.tmod (wrap64 ((wrap64 (t148 + 1)) + t149)) (y145.length : Int)) < (y145.length : Int) then (if y150.length + (rd_L2 y145 (Int.tmod (wrap64 ((wrap64 (t148 + 1)) + t149)) (y145.length : Int))).length < 140737488355328 then (ramekinlaw5_RsDetects.l0 k l4 y145 t148 (Int.tmod (wrap64 ((wrap64 (t148 + 1)) + t149)) (y145.length : Int)) (y150 ++ (rd_L2 y145 (Int.tmod (wrap64 ((wrap64 (t148 + 1)) + t149)) (y145.length : Int)))) false 0) else (none)) else (none)) else (none))))))) else (none)))) else (none)))))) else (some false))
theorem ramekinlaw5_RsDetects.mono_l : ∀ k, (∀ y0 y1 y2 y3 y4 y5 y6, LeO (ramekinlaw5_RsDetects.l0 k y0 y1 y2 y3 y4 y5 y6) (ramekinlaw5_RsDetects.l0 (k + 1) y0 y1 y2 y3 y4 y5 y6))
  | 0 => fun _ _ _ _ _ _ _ r h => by simp [ramekinlaw5_RsDetects.l0] at h
  | k + 1 => by
    have ih0 := ramekinlaw5_RsDetects.mono_l k
    · intro y0 y1 y2 y3 y4 y5 y6
      unfold ramekinlaw5_RsDetects.l0
      repeat' first
      | (with_reducible exact ih0 _ _ _ _ _ _ _)
      | (with_reducible exact LeO.refl _)
      | (with_reducible exact LeO.none _)
      | (with_reducible refine LeO.ite ?_ ?_)
      | (with_reducible refine LeO.bind ?_ (fun _ => ?_))
      | exact ih0 _ _ _ _ _ _ _
      | exact LeO.none _
      | refine LeO.ite ?_ ?_
      | refine LeO.bind ?_ (fun _ => ?_)
theorem ramekinlaw5_RsDetects.mono : ∀ a0 a1 a2 a3 a4 k, LeO (ramekinlaw5_RsDetects.f k a0 a1 a2 a3 a4) (ramekinlaw5_RsDetects.f (k + 1) a0 a1 a2 a3 a4) := by
  intro a0 a1 a2 a3 a4 k
  have ih0 := ramekinlaw5_RsDetects.mono_l k
  unfold ramekinlaw5_RsDetects.f
  repeat' first
      | (with_reducible exact ih0 _ _ _ _ _ _ _)
      | (with_reducible exact LeO.refl _)
      | (with_reducible exact LeO.none _)
      | (with_reducible refine LeO.ite ?_ ?_)
      | (with_reducible refine LeO.bind ?_ (fun _ => ?_))
      | exact ih0 _ _ _ _ _ _ _
      | exact LeO.none _
      | refine LeO.ite ?_ ?_
      | refine LeO.bind ?_ (fun _ => ?_)
def ramekinlaw5_RsDetects.T13 : Bool × List (List Nat × List Nat) := (true, [([], []), ([], []), ([0, 1], [0, 1]), ([2], [2]), ([], []), ([], []), ([4, 5], [4, 5]), ([6], [6]), ([3, 7], [3, 7]), ([0, 1, 0, 1, 2, 3, 4, 5, 6, 7, 8], [0, 1]), ([9, 8, 0, 1, 2, 3, 4, 5, 6, 7, 8], [8, 9])])
def ramekinlaw5_RsDetects.B13 : List Nat := [0, 0, 3, 7, 0, 0, 48, 112, 255, 511, 1023]
theorem ramekinlaw5_RsDetects.tab13 : rtab .any (opsOf Try.f8 13) = ramekinlaw5_RsDetects.T13 := by kernel_rfl
theorem ramekinlaw5_RsDetects.bits13 : waitsOk ramekinlaw5_RsDetects.T13.2 ramekinlaw5_RsDetects.B13 = true := by kernel_rfl
set_option maxHeartbeats 8000000 in
set_option maxRecDepth 100000 in
theorem ramekinlaw5_RsDetects.calls (k : Nat) (A0 : Option Addr) (c0 : Nat) (l0 : List Int) (a1 : Int) (a2 : Int) (a3 : Int) (A4 : Option Addr) (c4 : Nat) (l4 : List Int) (r : Bool) (w : World) (hr0 : Kd.C (Kd.int .u8) w A0 l0.length l0) (hc0 : l0.length ≤ c0) (hr4 : Kd.C (Kd.int .u8) w A4 l4.length l4) (hc4 : l4.length ≤ c4) (h : ramekinlaw5_RsDetects.f k l0 a1 a2 a3 l4 = some r) :
    Calls Try.prog 8 #[.slice A0 l0.length c0, .int .i64 a1, .int .i64 a2, .int .i64 a3, .slice A4 l4.length c4] w fun e w' => e = .returned (.bool r) ∧ Below w.heap.size w w' := by
  have HR0 := Aside0.mk hr0
  have HC0 := Aside0.mk hc0
  clear hr0 hc0
  have HR4 := Aside0.mk hr4
  have HC4 := Aside0.mk hc4
  clear hr4 hc4
  have HB := Aside0.mk (Below.refl w.heap.size w)
  have H : ((ramekinlaw5_known.f).bind fun t125 => (if t125 = true then ((ramekinlaw5_within.f a1 5).bind fun t126 => ((ramekinlaw5_Rows.f l0 (wrap64 (4 + t126)) 8).bind fun t127 => ((ramekinref5_Parity.f t127).bind fun bt130 => ((some (([] : List (List Int)) : List (List Int))).bind fun y136 => (if y136.length + t127.length < 5864062014805 then ((some (y136 ++ t127 : List (List Int))).bind fun y139 => ((some (([bt130.1, bt130.2] : List (List Int)) : List (List Int))).bind fun y142 => (if y139.length + y142.length < 5864062014805 then ((some (y139 ++ y142 : List (List Int))).bind fun y145 => ((ramekinlaw5_within.f a2 (y145.length : Int)).bind fun t148 => ((ramekinlaw5_within.f a3 (wrap64 ((y145.length : Int) - 1))).bind fun t149 => (if (y145.length : Int) = 0 then (none) else ((some (([] : List Int) : List Int)).bind fun y150 => (if 0 ≤ (Int.tmod (wrap64 ((wrap64 (t148 + 1)) + t149)) (y145.length : Int)) then (if (Int.tmod (wrap64 ((wrap64 (t148 + 1)) + t149)) (y145.length : Int)) < (y145.length : Int) then (if y150.length + (rd_L2 y145 (Int.tmod (wrap64 ((wrap64 (t148 + 1)) + t149)) (y145.length : Int))).length < 140737488355328 then (ramekinlaw5_RsDetects.l0 k l4 y145 t148 (Int.tmod (wrap64 ((wrap64 (t148 + 1)) + t149)) (y145.length : Int)) (y150 ++ (rd_L2 y145 (Int.tmod (wrap64 ((wrap64 (t148 + 1)) + t149)) (y145.length : Int)))) false 0) else (none)) else (none)) else (none))))))) else (none)))) else (none)))))) else (some false))) = some r := h
  clear h
  replace H := Option.bind_eq_some_iff.mp H
  obtain ⟨t125, A60, H⟩ := H
  replace H : (if t125 = true then ((ramekinlaw5_within.f a1 5).bind fun t126 => ((ramekinlaw5_Rows.f l0 (wrap64 (4 + t126)) 8).bind fun t127 => ((ramekinref5_Parity.f t127).bind fun bt130 => ((some (([] : List (List Int)) : List (List Int))).bind fun y136 => (if y136.length + t127.length < 5864062014805 then ((some (y136 ++ t127 : List (List Int))).bind fun y139 => ((some (([bt130.1, bt130.2] : List (List Int)) : List (List Int))).bind fun y142 => (if y139.length + y142.length < 5864062014805 then ((some (y139 ++ y142 : List (List Int))).bind fun y145 => ((ramekinlaw5_within.f a2 (y145.length : Int)).bind fun t148 => ((ramekinlaw5_within.f a3 (wrap64 ((y145.length : Int) - 1))).bind fun t149 => (if (y145.length : Int) = 0 then (none) else ((some (([] : List Int) : List Int)).bind fun y150 => (if 0 ≤ (Int.tmod (wrap64 ((wrap64 (t148 + 1)) + t149)) (y145.length : Int)) then (if (Int.tmod (wrap64 ((wrap64 (t148 + 1)) + t149)) (y145.length : Int)) < (y145.length : Int) then (if y150.length + (rd_L2 y145 (Int.tmod (wrap64 ((wrap64 (t148 + 1)) + t149)) (y145.length : Int))).length < 140737488355328 then (ramekinlaw5_RsDetects.l0 k l4 y145 t148 (Int.tmod (wrap64 ((wrap64 (t148 + 1)) + t149)) (y145.length : Int)) (y150 ++ (rd_L2 y145 (Int.tmod (wrap64 ((wrap64 (t148 + 1)) + t149)) (y145.length : Int)))) false 0) else (none)) else (none)) else (none))))))) else (none)))) else (none)))))) else (some false)) = some r := H
  have A6 := Aside0.mk A60
  clear A60
  by_cases c7 : t125 = true
  · subst c7
    have H1 : ((ramekinlaw5_within.f a1 5).bind fun t126 => ((ramekinlaw5_Rows.f l0 (wrap64 (4 + t126)) 8).bind fun t127 => ((ramekinref5_Parity.f t127).bind fun bt130 => ((some (([] : List (List Int)) : List (List Int))).bind fun y136 => (if y136.length + t127.length < 5864062014805 then ((some (y136 ++ t127 : List (List Int))).bind fun y139 => ((some (([bt130.1, bt130.2] : List (List Int)) : List (List Int))).bind fun y142 => (if y139.length + y142.length < 5864062014805 then ((some (y139 ++ y142 : List (List Int))).bind fun y145 => ((ramekinlaw5_within.f a2 (y145.length : Int)).bind fun t148 => ((ramekinlaw5_within.f a3 (wrap64 ((y145.length : Int) - 1))).bind fun t149 => (if (y145.length : Int) = 0 then (none) else ((some (([] : List Int) : List Int)).bind fun y150 => (if 0 ≤ (Int.tmod (wrap64 ((wrap64 (t148 + 1)) + t149)) (y145.length : Int)) then (if (Int.tmod (wrap64 ((wrap64 (t148 + 1)) + t149)) (y145.length : Int)) < (y145.length : Int) then (if y150.length + (rd_L2 y145 (Int.tmod (wrap64 ((wrap64 (t148 + 1)) + t149)) (y145.length : Int))).length < 140737488355328 then (ramekinlaw5_RsDetects.l0 k l4 y145 t148 (Int.tmod (wrap64 ((wrap64 (t148 + 1)) + t149)) (y145.length : Int)) (y150 ++ (rd_L2 y145 (Int.tmod (wrap64 ((wrap64 (t148 + 1)) + t149)) (y145.length : Int)))) false 0) else (none)) else (none)) else (none))))))) else (none)))) else (none)))))) = some r := by rw [if_pos rfl] at H; exact H
    clear H
    have H := H1
    clear H1
    replace H := Option.bind_eq_some_iff.mp H
    obtain ⟨t126, A80, H⟩ := H
    replace H : ((ramekinlaw5_Rows.f l0 (wrap64 (4 + t126)) 8).bind fun t127 => ((ramekinref5_Parity.f t127).bind fun bt130 => ((some (([] : List (List Int)) : List (List Int))).bind fun y136 => (if y136.length + t127.length < 5864062014805 then ((some (y136 ++ t127 : List (List Int))).bind fun y139 => ((some (([bt130.1, bt130.2] : List (List Int)) : List (List Int))).bind fun y142 => (if y139.length + y142.length < 5864062014805 then ((some (y139 ++ y142 : List (List Int))).bind fun y145 => ((ramekinlaw5_within.f a2 (y145.length : Int)).bind fun t148 => ((ramekinlaw5_within.f a3 (wrap64 ((y145.length : Int) - 1))).bind fun t149 => (if (y145.length : Int) = 0 then (none) else ((some (([] : List Int) : List Int)).bind fun y150 => (if 0 ≤ (Int.tmod (wrap64 ((wrap64 (t148 + 1)) + t149)) (y145.length : Int)) then (if (Int.tmod (wrap64 ((wrap64 (t148 + 1)) + t149)) (y145.length : Int)) < (y145.length : Int) then (if y150.length + (rd_L2 y145 (Int.tmod (wrap64 ((wrap64 (t148 + 1)) + t149)) (y145.length : Int))).length < 140737488355328 then (ramekinlaw5_RsDetects.l0 k l4 y145 t148 (Int.tmod (wrap64 ((wrap64 (t148 + 1)) + t149)) (y145.length : Int)) (y150 ++ (rd_L2 y145 (Int.tmod (wrap64 ((wrap64 (t148 + 1)) + t149)) (y145.length : Int)))) false 0) else (none)) else (none)) else (none))))))) else (none)))) else (none))))) = some r := H
    have A8 := Aside0.mk A80
    clear A80
    replace H := Option.bind_eq_some_iff.mp H
    obtain ⟨t127, A90, H⟩ := H
    replace H : ((ramekinref5_Parity.f t127).bind fun bt130 => ((some (([] : List (List Int)) : List (List Int))).bind fun y136 => (if y136.length + t127.length < 5864062014805 then ((some (y136 ++ t127 : List (List Int))).bind fun y139 => ((some (([bt130.1, bt130.2] : List (List Int)) : List (List Int))).bind fun y142 => (if y139.length + y142.length < 5864062014805 then ((some (y139 ++ y142 : List (List Int))).bind fun y145 => ((ramekinlaw5_within.f a2 (y145.length : Int)).bind fun t148 => ((ramekinlaw5_within.f a3 (wrap64 ((y145.length : Int) - 1))).bind fun t149 => (if (y145.length : Int) = 0 then (none) else ((some (([] : List Int) : List Int)).bind fun y150 => (if 0 ≤ (Int.tmod (wrap64 ((wrap64 (t148 + 1)) + t149)) (y145.length : Int)) then (if (Int.tmod (wrap64 ((wrap64 (t148 + 1)) + t149)) (y145.length : Int)) < (y145.length : Int) then (if y150.length + (rd_L2 y145 (Int.tmod (wrap64 ((wrap64 (t148 + 1)) + t149)) (y145.length : Int))).length < 140737488355328 then (ramekinlaw5_RsDetects.l0 k l4 y145 t148 (Int.tmod (wrap64 ((wrap64 (t148 + 1)) + t149)) (y145.length : Int)) (y150 ++ (rd_L2 y145 (Int.tmod (wrap64 ((wrap64 (t148 + 1)) + t149)) (y145.length : Int)))) false 0) else (none)) else (none)) else (none))))))) else (none)))) else (none)))) = some r := H
    have A9 := Aside0.mk A90
    clear A90
    replace H := Option.bind_eq_some_iff.mp H
    obtain ⟨⟨t130, t131⟩, A100, H⟩ := H
    replace H : ((some (([] : List (List Int)) : List (List Int))).bind fun y136 => (if y136.length + t127.length < 5864062014805 then ((some (y136 ++ t127 : List (List Int))).bind fun y139 => ((some (([t130, t131] : List (List Int)) : List (List Int))).bind fun y142 => (if y139.length + y142.length < 5864062014805 then ((some (y139 ++ y142 : List (List Int))).bind fun y145 => ((ramekinlaw5_within.f a2 (y145.length : Int)).bind fun t148 => ((ramekinlaw5_within.f a3 (wrap64 ((y145.length : Int) - 1))).bind fun t149 => (if (y145.length : Int) = 0 then (none) else ((some (([] : List Int) : List Int)).bind fun y150 => (if 0 ≤ (Int.tmod (wrap64 ((wrap64 (t148 + 1)) + t149)) (y145.length : Int)) then (if (Int.tmod (wrap64 ((wrap64 (t148 + 1)) + t149)) (y145.length : Int)) < (y145.length : Int) then (if y150.length + (rd_L2 y145 (Int.tmod (wrap64 ((wrap64 (t148 + 1)) + t149)) (y145.length : Int))).length < 140737488355328 then (ramekinlaw5_RsDetects.l0 k l4 y145 t148 (Int.tmod (wrap64 ((wrap64 (t148 + 1)) + t149)) (y145.length : Int)) (y150 ++ (rd_L2 y145 (Int.tmod (wrap64 ((wrap64 (t148 + 1)) + t149)) (y145.length : Int)))) false 0) else (none)) else (none)) else (none))))))) else (none)))) else (none))) = some r := H
    have A10 := Aside0.mk A100
    clear A100
    obtain ⟨y136, hy136⟩ : ∃ y_ : List (List Int), y_ = (([] : List (List Int))) := ⟨_, rfl⟩
    replace H : (if y136.length + t127.length < 5864062014805 then ((some (y136 ++ t127 : List (List Int))).bind fun y139 => ((some (([t130, t131] : List (List Int)) : List (List Int))).bind fun y142 => (if y139.length + y142.length < 5864062014805 then ((some (y139 ++ y142 : List (List Int))).bind fun y145 => ((ramekinlaw5_within.f a2 (y145.length : Int)).bind fun t148 => ((ramekinlaw5_within.f a3 (wrap64 ((y145.length : Int) - 1))).bind fun t149 => (if (y145.length : Int) = 0 then (none) else ((some (([] : List Int) : List Int)).bind fun y150 => (if 0 ≤ (Int.tmod (wrap64 ((wrap64 (t148 + 1)) + t149)) (y145.length : Int)) then (if (Int.tmod (wrap64 ((wrap64 (t148 + 1)) + t149)) (y145.length : Int)) < (y145.length : Int) then (if y150.length + (rd_L2 y145 (Int.tmod (wrap64 ((wrap64 (t148 + 1)) + t149)) (y145.length : Int))).length < 140737488355328 then (ramekinlaw5_RsDetects.l0 k l4 y145 t148 (Int.tmod (wrap64 ((wrap64 (t148 + 1)) + t149)) (y145.length : Int)) (y150 ++ (rd_L2 y145 (Int.tmod (wrap64 ((wrap64 (t148 + 1)) + t149)) (y145.length : Int)))) false 0) else (none)) else (none)) else (none))))))) else (none)))) else (none)) = some r := by first | (rw [hy136]; with_reducible exact H) | (have H2_ := (Option.bind_some _ _).symm.trans H; rw [hy136]; with_reducible exact H2_) | (have H2_ := (Option.bind_some _ _).symm.trans H; with_reducible exact H2_) | with_reducible exact H | (rw [hy136]; exact H) | exact H
    have Ny136 := Aside0.mk hy136
    clear hy136
    by_cases c11 : y136.length + t127.length < 5864062014805
    · rw [if_pos c11] at H
      have LMc11 := Aside0.mk c11
      clear c11
      obtain ⟨y139, hy139⟩ : ∃ y_ : List (List Int), y_ = (y136 ++ t127) := ⟨_, rfl⟩
      replace H : ((some (([t130, t131] : List (List Int)) : List (List Int))).bind fun y142 => (if y139.length + y142.length < 5864062014805 then ((some (y139 ++ y142 : List (List Int))).bind fun y145 => ((ramekinlaw5_within.f a2 (y145.length : Int)).bind fun t148 => ((ramekinlaw5_within.f a3 (wrap64 ((y145.length : Int) - 1))).bind fun t149 => (if (y145.length : Int) = 0 then (none) else ((some (([] : List Int) : List Int)).bind fun y150 => (if 0 ≤ (Int.tmod (wrap64 ((wrap64 (t148 + 1)) + t149)) (y145.length : Int)) then (if (Int.tmod (wrap64 ((wrap64 (t148 + 1)) + t149)) (y145.length : Int)) < (y145.length : Int) then (if y150.length + (rd_L2 y145 (Int.tmod (wrap64 ((wrap64 (t148 + 1)) + t149)) (y145.length : Int))).length < 140737488355328 then (ramekinlaw5_RsDetects.l0 k l4 y145 t148 (Int.tmod (wrap64 ((wrap64 (t148 + 1)) + t149)) (y145.length : Int)) (y150 ++ (rd_L2 y145 (Int.tmod (wrap64 ((wrap64 (t148 + 1)) + t149)) (y145.length : Int)))) false 0) else (none)) else (none)) else (none))))))) else (none))) = some r := by first | (rw [hy139]; with_reducible exact H) | (have H2_ := (Option.bind_some _ _).symm.trans H; rw [hy139]; with_reducible exact H2_) | (have H2_ := (Option.bind_some _ _).symm.trans H; with_reducible exact H2_) | with_reducible exact H | (rw [hy139]; exact H) | exact H
      have Ny139 := Aside0.mk hy139
      clear hy139
      obtain ⟨y142, hy142⟩ : ∃ y_ : List (List Int), y_ = (([t130, t131] : List (List Int))) := ⟨_, rfl⟩
      replace H : (if y139.length + y142.length < 5864062014805 then ((some (y139 ++ y142 : List (List Int))).bind fun y145 => ((ramekinlaw5_within.f a2 (y145.length : Int)).bind fun t148 => ((ramekinlaw5_within.f a3 (wrap64 ((y145.length : Int) - 1))).bind fun t149 => (if (y145.length : Int) = 0 then (none) else ((some (([] : List Int) : List Int)).bind fun y150 => (if 0 ≤ (Int.tmod (wrap64 ((wrap64 (t148 + 1)) + t149)) (y145.length : Int)) then (if (Int.tmod (wrap64 ((wrap64 (t148 + 1)) + t149)) (y145.length : Int)) < (y145.length : Int) then (if y150.length + (rd_L2 y145 (Int.tmod (wrap64 ((wrap64 (t148 + 1)) + t149)) (y145.length : Int))).length < 140737488355328 then (ramekinlaw5_RsDetects.l0 k l4 y145 t148 (Int.tmod (wrap64 ((wrap64 (t148 + 1)) + t149)) (y145.length : Int)) (y150 ++ (rd_L2 y145 (Int.tmod (wrap64 ((wrap64 (t148 + 1)) + t149)) (y145.length : Int)))) false 0) else (none)) else (none)) else (none))))))) else (none)) = some r := by first | (rw [hy142]; with_reducible exact H) | (have H2_ := (Option.bind_some _ _).symm.trans H; rw [hy142]; with_reducible exact H2_) | (have H2_ := (Option.bind_some _ _).symm.trans H; with_reducible exact H2_) | with_reducible exact H | (rw [hy142]; exact H) | exact H
      have Ny142 := Aside0.mk hy142
      clear hy142
      by_cases c12 : y139.length + y142.length < 5864062014805
      · rw [if_pos c12] at H
        have LMc12 := Aside0.mk c12
        clear c12
        obtain ⟨y145, hy145⟩ : ∃ y_ : List (List Int), y_ = (y139 ++ y142) := ⟨_, rfl⟩
        replace H : ((ramekinlaw5_within.f a2 (y145.length : Int)).bind fun t148 => ((ramekinlaw5_within.f a3 (wrap64 ((y145.length : Int) - 1))).bind fun t149 => (if (y145.length : Int) = 0 then (none) else ((some (([] : List Int) : List Int)).bind fun y150 => (if 0 ≤ (Int.tmod (wrap64 ((wrap64 (t148 + 1)) + t149)) (y145.length : Int)) then (if (Int.tmod (wrap64 ((wrap64 (t148 + 1)) + t149)) (y145.length : Int)) < (y145.length : Int) then (if y150.length + (rd_L2 y145 (Int.tmod (wrap64 ((wrap64 (t148 + 1)) + t149)) (y145.length : Int))).length < 140737488355328 then (ramekinlaw5_RsDetects.l0 k l4 y145 t148 (Int.tmod (wrap64 ((wrap64 (t148 + 1)) + t149)) (y145.length : Int)) (y150 ++ (rd_L2 y145 (Int.tmod (wrap64 ((wrap64 (t148 + 1)) + t149)) (y145.length : Int)))) false 0) else (none)) else (none)) else (none)))))) = some r := by first | (rw [hy145]; with_reducible exact H) | (have H2_ := (Option.bind_some _ _).symm.trans H; rw [hy145]; with_reducible exact H2_) | (have H2_ := (Option.bind_some _ _).symm.trans H; with_reducible exact H2_) | with_reducible exact H | (rw [hy145]; exact H) | exact H
        have Ny145 := Aside0.mk hy145
        clear hy145
        replace H := Option.bind_eq_some_iff.mp H
        obtain ⟨t148, A130, H⟩ := H
        replace H : ((ramekinlaw5_within.f a3 (wrap64 ((y145.length : Int) - 1))).bind fun t149 => (if (y145.length : Int) = 0 then (none) else ((some (([] : List Int) : List Int)).bind fun y150 => (if 0 ≤ (Int.tmod (wrap64 ((wrap64 (t148 + 1)) + t149)) (y145.length : Int)) then (if (Int.tmod (wrap64 ((wrap64 (t148 + 1)) + t149)) (y145.length : Int)) < (y145.length : Int) then (if y150.length + (rd_L2 y145 (Int.tmod (wrap64 ((wrap64 (t148 + 1)) + t149)) (y145.length : Int))).length < 140737488355328 then (ramekinlaw5_RsDetects.l0 k l4 y145 t148 (Int.tmod (wrap64 ((wrap64 (t148 + 1)) + t149)) (y145.length : Int)) (y150 ++ (rd_L2 y145 (Int.tmod (wrap64 ((wrap64 (t148 + 1)) + t149)) (y145.length : Int)))) false 0) else (none)) else (none)) else (none))))) = some r := H
        have A13 := Aside0.mk A130
        clear A130
        replace H := Option.bind_eq_some_iff.mp H
        obtain ⟨t149, A140, H⟩ := H
        replace H : (if (y145.length : Int) = 0 then (none) else ((some (([] : List Int) : List Int)).bind fun y150 => (if 0 ≤ (Int.tmod (wrap64 ((wrap64 (t148 + 1)) + t149)) (y145.length : Int)) then (if (Int.tmod (wrap64 ((wrap64 (t148 + 1)) + t149)) (y145.length : Int)) < (y145.length : Int) then (if y150.length + (rd_L2 y145 (Int.tmod (wrap64 ((wrap64 (t148 + 1)) + t149)) (y145.length : Int))).length < 140737488355328 then (ramekinlaw5_RsDetects.l0 k l4 y145 t148 (Int.tmod (wrap64 ((wrap64 (t148 + 1)) + t149)) (y145.length : Int)) (y150 ++ (rd_L2 y145 (Int.tmod (wrap64 ((wrap64 (t148 + 1)) + t149)) (y145.length : Int)))) false 0) else (none)) else (none)) else (none)))) = some r := H
        have A14 := Aside0.mk A140
        clear A140
        by_cases c15 : (y145.length : Int) = 0
        · rw [if_pos c15] at H
          exact absurd H (by simp)
        · rw [if_neg c15] at H
          have c15b0 : ((y145.length : Int) == 0) = false := beq_eq_false_iff_ne.mpr c15
          have c15b1 : ((y145.length : Int) != 0) = true := bne_iff_ne.mpr c15
          have c15b2 : ¬ (y145 = []) := fun h_ => c15 (by rw [h_]; rfl)
          obtain ⟨y150, hy150⟩ : ∃ y_ : List Int, y_ = (([] : List Int)) := ⟨_, rfl⟩
          replace H : (if 0 ≤ (Int.tmod (wrap64 ((wrap64 (t148 + 1)) + t149)) (y145.length : Int)) then (if (Int.tmod (wrap64 ((wrap64 (t148 + 1)) + t149)) (y145.length : Int)) < (y145.length : Int) then (if y150.length + (rd_L2 y145 (Int.tmod (wrap64 ((wrap64 (t148 + 1)) + t149)) (y145.length : Int))).length < 140737488355328 then (ramekinlaw5_RsDetects.l0 k l4 y145 t148 (Int.tmod (wrap64 ((wrap64 (t148 + 1)) + t149)) (y145.length : Int)) (y150 ++ (rd_L2 y145 (Int.tmod (wrap64 ((wrap64 (t148 + 1)) + t149)) (y145.length : Int)))) false 0) else (none)) else (none)) else (none)) = some r := by first | (rw [hy150]; with_reducible exact H) | (have H2_ := (Option.bind_some _ _).symm.trans H; rw [hy150]; with_reducible exact H2_) | (have H2_ := (Option.bind_some _ _).symm.trans H; with_reducible exact H2_) | with_reducible exact H | (rw [hy150]; exact H) | exact H
          have Ny150 := Aside0.mk hy150
          clear hy150
          obtain ⟨ji16, hji16⟩ : ∃ j_ : Int, (Int.tmod (wrap64 ((wrap64 (t148 + 1)) + t149)) (y145.length : Int)) = j_ := ⟨_, rfl⟩
          replace H : (if 0 ≤ (ji16) then (if (ji16) < (y145.length : Int) then (if y150.length + (rd_L2 y145 (ji16)).length < 140737488355328 then (ramekinlaw5_RsDetects.l0 k l4 y145 t148 ji16 (y150 ++ (rd_L2 y145 (ji16))) false 0) else (none)) else (none)) else (none)) = some r := by first | (rw [hji16] at H; exact H) | (simp only [hji16] at H ⊢; exact H)
          (try rw [hji16] at A6)
          (try rw [hji16] at A8)
          (try rw [hji16] at A9)
          (try rw [hji16] at A10)
          (try rw [hji16] at A13)
          (try rw [hji16] at A14)
          by_cases c17 : 0 ≤ (ji16)
          · rw [if_pos c17] at H
            have c17b0 : decide (0 ≤ (ji16)) = true := decide_eq_true c17
            clear c17
            by_cases c18 : (ji16) < (y145.length : Int)
            · rw [if_pos c18] at H
              have c18b0 : decide ((ji16) < (y145.length : Int)) = true := decide_eq_true c18
              clear c18
              by_cases c19 : y150.length + (rd_L2 y145 (ji16)).length < 140737488355328
              · rw [if_pos c19] at H
                have LMc19 := Aside0.mk c19
                clear c19
                obtain ⟨y154, hy154⟩ : ∃ y_ : List Int, y_ = (y150 ++ (rd_L2 y145 (ji16))) := ⟨_, rfl⟩
                replace H : (ramekinlaw5_RsDetects.l0 k l4 y145 t148 ji16 y154 false 0) = some r := by first | (rw [hy154]; with_reducible exact H) | (have H2_ := (Option.bind_some _ _).symm.trans H; rw [hy154]; with_reducible exact H2_) | (have H2_ := (Option.bind_some _ _).symm.trans H; with_reducible exact H2_) | with_reducible exact H | (rw [hy154]; exact H) | exact H
                have Ny154 := Aside0.mk hy154
                clear hy154
                have H' := Aside0.mk H
                clear H
                go_enter Try.func8, Try.ntmps8
                go_wp2_with (first | ((with_reducible refine gate_callee (f := 11) rfl ?_); refine goesL_ (some 22) rfl rfl Try.func11 (by kernel_rfl) rfl #[] rfl (by (try simp only [List.map_toArray, List.map_cons, List.map_nil]); first | done | rfl | (simp only [List.length_drop, List.length_take]; rfl)) ?_; (with_reducible refine (ramekinlaw5_known.calls  true _ A6.out).mono ?_); rintro e w20 ⟨rfl, hb⟩; refine ⟨_, rfl, ?_⟩; have n0_ := Aside0.mk (below_step (by repeat (first | (with_reducible first | exact HB.out | apply below_alloc | apply pw_below_drewN | apply below_drew1) | exact HB.out)) hb); clear HB; have HB := n0_; clear n0_; (try clear hb); (try clear hb2); (try clear hk); (try clear hi)) | ((with_reducible refine gate_callee (f := 12) rfl ?_); refine goesL_ (some 26) rfl rfl Try.func12 (by kernel_rfl) rfl #[.int .i64 a1, .int .i64 5] rfl (by (try simp only [List.map_toArray, List.map_cons, List.map_nil]); first | done | rfl | (simp only [List.length_drop, List.length_take]; rfl)) ?_; (with_reducible refine (ramekinlaw5_within.calls a1 5 t126 _ A8.out).mono ?_); rintro e w' ⟨rfl, ⟨nd, rfl⟩⟩; refine ⟨_, rfl, ?_⟩) | ((with_reducible refine gate_callee (f := 13) rfl ?_); refine goesL_ (some 28) rfl rfl Try.func13 (by kernel_rfl) rfl #[.slice A0 l0.length c0, .int .i64 (wrap64 (4 + t126)), .int .i64 8] rfl (by (try simp only [List.map_toArray, List.map_cons, List.map_nil]); first | done | rfl | (simp only [List.length_drop, List.length_take]; rfl)) ?_; (with_reducible refine (ramekinlaw5_Rows.calls _ _ l0 (wrap64 (4 + t126)) 8 t127 _ ?side1 ?side2 A9.out).mono ?_); (case side1 => repeat (first | exact (Kd.C_below HR0.out (by repeat (first | (with_reducible first | exact HB.out | apply below_alloc | apply pw_below_drewN | apply below_drew1) | exact HB.out))) | (with_reducible refine Kd.C_alloc ?_ _) | (with_reducible refine Kd.C_drewN ?_ _) | (with_reducible refine Kd.C_drew ?_))); (case side2 => exact HC0.out); rintro e w21 ⟨v128, rfl, ho0, hb⟩; refine ⟨_, rfl, ?_⟩; have n0_ := Aside0.mk (Kd.N_lower (Kd.N_mono (ok' := fun k_ => True) ho0 (fun k_ hk_ => trivial)) (below_size (by repeat (first | (with_reducible first | exact HB.out | apply below_alloc | apply pw_below_drewN | apply below_drew1) | exact HB.out)))); have n1_ := Aside0.mk (below_step (by repeat (first | (with_reducible first | exact HB.out | apply below_alloc | apply pw_below_drewN | apply below_drew1) | exact HB.out)) hb); clear HB; have HO129 := n0_; have HB := n1_; clear n0_ n1_; (try clear hb); (try clear hb2); (try clear hk); (try clear hi); (try clear ho0); obtain ⟨Ao22, co22, eo22⟩ := Kd.N_slice HO129.out; subst eo22) | ((with_reducible refine gate_callee (f := 18) rfl ?_); refine goesL_ (some 31) rfl rfl Try.func18 (by kernel_rfl) rfl #[.slice Ao22 t127.length co22] rfl (by (try simp only [List.map_toArray, List.map_cons, List.map_nil]); first | done | rfl | (simp only [List.length_drop, List.length_take]; rfl)) ?_; (with_reducible refine (ramekinref5_Parity.calls _ _ t127 t130 t131 _ ?side1 ?side2 A10.out).mono ?_); (case side1 => repeat (first | exact (Kd.N_reads' HO129.out).2.2 | (with_reducible refine Kd.C_alloc ?_ _) | (with_reducible refine Kd.C_drewN ?_ _) | (with_reducible refine Kd.C_drew ?_))); (case side2 => exact (Kd.N_reads' HO129.out).2.1); rintro e w23 ⟨v132, v134, rfl, ho0, ho1, hb⟩; refine ⟨_, rfl, ?_⟩; have n0_ := Aside0.mk (Kd.N_mono (Kd.N_told (Kd.N_told (Kd.N_old (by (with_reducible repeat (first | apply Kd.N_alloc | apply Kd.N_drewN | apply Kd.N_drew)); exact HO129.out) hb) (Kd.R_base ho0)) (Kd.R_base ho1)) (fun _ h_ => h_.1)); have n1_ := Aside0.mk (Kd.R_lower ho0 (below_size (by repeat (first | (with_reducible first | exact HB.out | apply below_alloc | apply pw_below_drewN | apply below_drew1) | exact HB.out)))); have n2_ := Aside0.mk (Kd.R_lower ho1 (below_size (by repeat (first | (with_reducible first | exact HB.out | apply below_alloc | apply pw_below_drewN | apply below_drew1) | exact HB.out)))); have n3_ := Aside0.mk (below_step (by repeat (first | (with_reducible first | exact HB.out | apply below_alloc | apply pw_below_drewN | apply below_drew1) | exact HB.out)) hb); clear HO129; clear HB; have HO129 := n0_; have HO133 := n1_; have HO135 := n2_; have HB := n3_; clear n0_ n1_ n2_ n3_; (try clear hb); (try clear hb2); (try clear hk); (try clear hi); (try clear ho0); (try clear ho1)) | ((with_reducible refine gate_dst (N := 34) rfl ?_); refine Kd.N_lit (Kd.slice 5 (Kd.int .u8)) _ 22 ?hg (N' := 34) ?hd (xs := ([] : List (List Int))) (inner := []) (ok := (fun k_ => some k_ ≠ (.slice Ao22 t127.length co22 : Value).ownBlock ∧ some k_ ≠ (v132 : Value).ownBlock ∧ some k_ ≠ (v134 : Value).ownBlock)) (okp := (fun k_ => some k_ ≠ (.slice Ao22 t127.length co22 : Value).ownBlock ∧ some k_ ≠ (v132 : Value).ownBlock ∧ some k_ ≠ (v134 : Value).ownBlock)) ?hr ?hp (fun _ hk => hk) ((show ∀ k_, w23.heap.size ≤ k_ → (fun k_ => some k_ ≠ (.slice Ao22 t127.length co22 : Value).ownBlock ∧ some k_ ≠ (v132 : Value).ownBlock ∧ some k_ ≠ (v134 : Value).ownBlock) k_ from fun k_ hk => ⟨Kd.fresh' (Kd.N_lt (by (with_reducible repeat (first | apply Kd.N_alloc | apply Kd.N_drewN | apply Kd.N_drew)); exact HO129.out)) k_ hk, Kd.fresh' (Kd.R_lt (by (with_reducible repeat (first | apply Kd.R_alloc | apply Kd.R_drewN | apply Kd.R_drew)); exact HO133.out)) k_ hk, Kd.fresh' (Kd.R_lt (by (with_reducible repeat (first | apply Kd.R_alloc | apply Kd.R_drewN | apply Kd.R_drew)); exact HO135.out)) k_ hk⟩) _ (Nat.le_refl _)) (Below.refl _ _) (Nat.le_refl _) (by simp) ?_; (case hd => rfl); (case hg => rfl); (case hr => first | (go_simp; done) | (go_simp; rfl)); (case hp => exact (Reps.none _ _)); intro v137 w24 ho25 hb hg_ hnew_; clear hg_ hnew_; (first | rw [← Ny136.out] at ho25 | (simp only [Int.reduceToNat] at ho25; rw [← Ny136.out] at ho25)); have n0_ := Aside0.mk (Kd.N_elder' (by (with_reducible repeat (first | apply Kd.N_alloc | apply Kd.N_drewN | apply Kd.N_drew)); exact HO129.out) (Kd.N_base ho25) hb); have n1_ := Aside0.mk (Kd.R_below (by (with_reducible repeat (first | apply Kd.R_alloc | apply Kd.R_drewN | apply Kd.R_drew)); exact HO133.out) hb); have n2_ := Aside0.mk (Kd.R_below (by (with_reducible repeat (first | apply Kd.R_alloc | apply Kd.R_drewN | apply Kd.R_drew)); exact HO135.out) hb); have n3_ := Aside0.mk (Kd.N_lower ho25 (below_size (by repeat (first | (with_reducible first | exact HB.out | apply below_alloc | apply pw_below_drewN | apply below_drew1) | exact HB.out)))); have n4_ := Aside0.mk (below_step (by repeat (first | (with_reducible first | exact HB.out | apply below_alloc | apply pw_below_drewN | apply below_drew1) | exact HB.out)) hb); clear HO129; clear HO133; clear HO135; clear HB; have HO129 := n0_; have HO133 := n1_; have HO135 := n2_; have HO138 := n3_; have HB := n4_; clear n0_ n1_ n2_ n3_ n4_; clear hb ho25) | ((with_reducible refine gate_builtin (b := .append) (xs := #[.tmp 34, .tmp 35]) rfl ?_); at_builtin; refine Kd.N_append_rows (Kd.slice 5 (Kd.int .u8)) (w0 := w) w.heap.size rfl (.tmp 34) (.tmp 35) 25 22 (.slice none 0 0) 24 rfl Try.underlying25 info22 rfl (by decide) (by omega) v137 y136 t127 _ _ _ (fun k_ => some k_ ≠ (v132 : Value).ownBlock ∧ some k_ ≠ (v134 : Value).ownBlock) (fun k_ => ((fun k_ => some k_ ≠ (v132 : Value).ownBlock ∧ some k_ ≠ (v134 : Value).ownBlock)) k_ ∧ some k_ ≠ (v137 : Value).ownBlock) rfl rfl ?aO ?aR (fun _ hk => hk) ?aF ?aB ?aS ?aL ?_; (case aR => exact (by skip; exact Kd.N_F (Kd.N_mono (ok' := (fun k_ => ((fun k_ => some k_ ≠ (v132 : Value).ownBlock ∧ some k_ ≠ (v134 : Value).ownBlock)) k_ ∧ some k_ ≠ (v137 : Value).ownBlock)) (HO129.out) (fun k_ hk => ⟨⟨hk.1.1.2, hk.1.2⟩, hk.2⟩)))); (case aB => exact (by repeat (first | (with_reducible first | exact HB.out | apply below_alloc | apply pw_below_drewN | apply below_drew1) | exact HB.out))); (case aF => exact (fun k_ hk => ⟨Kd.fresh' (Kd.R_lt (by (with_reducible repeat (first | apply Kd.R_alloc | apply Kd.R_drewN | apply Kd.R_drew)); exact HO133.out)) k_ hk, Kd.fresh' (Kd.R_lt (by (with_reducible repeat (first | apply Kd.R_alloc | apply Kd.R_drewN | apply Kd.R_drew)); exact HO135.out)) k_ hk⟩)); (case aO => exact (by (with_reducible repeat (first | apply Kd.N_alloc | apply Kd.N_drewN | apply Kd.N_drew)); exact Kd.N_mono HO138.out (fun _ hk => ⟨hk.2.1, hk.2.2⟩))); (case aS => exact (below_size (by repeat (first | (with_reducible first | exact HB.out | apply below_alloc | apply pw_below_drewN | apply below_drew1) | exact HB.out)))); (case aL => have := LMc11.out; omega); intro v140 w26 ho hb hg hat; rw [← Ny139.out] at ho; have n0_ := Aside0.mk (Kd.N_afterv (ok := (fun k_ => some k_ ≠ (v132 : Value).ownBlock ∧ some k_ ≠ (v134 : Value).ownBlock)) (by (with_reducible repeat (first | apply Kd.N_alloc | apply Kd.N_drewN | apply Kd.N_drew)); exact Kd.N_mono HO129.out (fun _ hk => ⟨⟨hk.1.1.2, hk.1.2⟩, hk.2⟩)) hg hat); have n1_ := Aside0.mk (Kd.R_over' (by (with_reducible repeat (first | apply Kd.R_alloc | apply Kd.R_drewN | apply Kd.R_drew)); exact HO133.out) (Kd.N_typed (by (with_reducible repeat (first | apply Kd.N_alloc | apply Kd.N_drewN | apply Kd.N_drew)); exact HO138.out)) (by decide) hg); have n2_ := Aside0.mk (Kd.R_over' (by (with_reducible repeat (first | apply Kd.R_alloc | apply Kd.R_drewN | apply Kd.R_drew)); exact HO135.out) (Kd.N_typed (by (with_reducible repeat (first | apply Kd.N_alloc | apply Kd.N_drewN | apply Kd.N_drew)); exact HO138.out)) (by decide) hg); have n3_ := Aside0.mk (hb); have n4_ := Aside0.mk (ho); clear HO129; clear HO133; clear HO135; clear HB; clear HO138; have HO129 := n0_; have HO133 := n1_; have HO135 := n2_; have HB := n3_; have HO141 := n4_; clear n0_ n1_ n2_ n3_ n4_; clear ho hb hg hat; obtain ⟨Ao27, co27, eo27⟩ := Kd.R_slice HO133.out; subst eo27; obtain ⟨Ao28, co28, eo28⟩ := Kd.R_slice HO135.out; subst eo28) | ((with_reducible refine gate_dst (N := 39) rfl ?_); refine Kd.N_lit (Kd.slice 5 (Kd.int .u8)) _ 22 ?hg (N' := 39) ?hd (xs := ([t130, t131] : List (List Int))) (inner := [.slice Ao27 t130.length co27, .slice Ao28 t131.length co28]) (ok := (fun k_ => some k_ ≠ (.slice Ao22 t127.length co22 : Value).ownBlock ∧ some k_ ≠ (v140 : Value).ownBlock)) (okp := (fun k_ => some k_ ≠ (.slice Ao22 t127.length co22 : Value).ownBlock ∧ some k_ ≠ (v140 : Value).ownBlock)) ?hr ?hp (fun _ hk => hk) ((show ∀ k_, w26.heap.size ≤ k_ → (fun k_ => some k_ ≠ (.slice Ao22 t127.length co22 : Value).ownBlock ∧ some k_ ≠ (v140 : Value).ownBlock) k_ from fun k_ hk => ⟨Kd.fresh' (Kd.N_lt (by (with_reducible repeat (first | apply Kd.N_alloc | apply Kd.N_drewN | apply Kd.N_drew)); exact HO129.out)) k_ hk, Kd.fresh' (Kd.N_lt (by (with_reducible repeat (first | apply Kd.N_alloc | apply Kd.N_drewN | apply Kd.N_drew)); exact HO141.out)) k_ hk⟩) _ (Nat.le_refl _)) (Below.refl _ _) (Nat.le_refl _) (by simp) ?_; (case hd => rfl); (case hg => rfl); (case hr => first | (go_simp; done) | (go_simp; rfl)); (case hp => exact (Reps.one (show Kd.FK (Kd.slice 5 (Kd.int .u8)) _ _ t130 [.slice Ao27 t130.length co27] from (Kd.FK_slice_mk (Kd.R_reads' (Kd.R_mono (ok' := (fun k_ => some k_ ≠ (.slice Ao22 t127.length co22 : Value).ownBlock ∧ some k_ ≠ (v140 : Value).ownBlock)) (Kd.R_apart' (Kd.R_apart' (HO133.out) (Kd.N_typed HO129.out) (by decide)) (Kd.N_typed HO141.out) (by decide)) (fun k_ hk => ⟨hk.1.2, hk.2⟩))).2.1 (Kd.R_F (Kd.R_mono (ok' := (fun k_ => some k_ ≠ (.slice Ao22 t127.length co22 : Value).ownBlock ∧ some k_ ≠ (v140 : Value).ownBlock)) (Kd.R_apart' (Kd.R_apart' (HO133.out) (Kd.N_typed HO129.out) (by decide)) (Kd.N_typed HO141.out) (by decide)) (fun k_ hk => ⟨hk.1.2, hk.2⟩))))) (Reps.one (show Kd.FK (Kd.slice 5 (Kd.int .u8)) _ _ t131 [.slice Ao28 t131.length co28] from (Kd.FK_slice_mk (Kd.R_reads' (Kd.R_mono (ok' := (fun k_ => some k_ ≠ (.slice Ao22 t127.length co22 : Value).ownBlock ∧ some k_ ≠ (v140 : Value).ownBlock)) (Kd.R_apart' (Kd.R_apart' (HO135.out) (Kd.N_typed HO129.out) (by decide)) (Kd.N_typed HO141.out) (by decide)) (fun k_ hk => ⟨hk.1.2, hk.2⟩))).2.1 (Kd.R_F (Kd.R_mono (ok' := (fun k_ => some k_ ≠ (.slice Ao22 t127.length co22 : Value).ownBlock ∧ some k_ ≠ (v140 : Value).ownBlock)) (Kd.R_apart' (Kd.R_apart' (HO135.out) (Kd.N_typed HO129.out) (by decide)) (Kd.N_typed HO141.out) (by decide)) (fun k_ hk => ⟨hk.1.2, hk.2⟩))))) (Reps.none _ _)))); intro v143 w29 ho30 hb hg_ hnew_; clear hg_ hnew_; (first | rw [← Ny142.out] at ho30 | (simp only [Int.reduceToNat] at ho30; rw [← Ny142.out] at ho30)); have n0_ := Aside0.mk (Kd.N_elder' (by (with_reducible repeat (first | apply Kd.N_alloc | apply Kd.N_drewN | apply Kd.N_drew)); exact HO129.out) (Kd.N_base ho30) hb); have n1_ := Aside0.mk (Kd.N_elder' (by (with_reducible repeat (first | apply Kd.N_alloc | apply Kd.N_drewN | apply Kd.N_drew)); exact HO141.out) (Kd.N_base ho30) hb); have n2_ := Aside0.mk (Kd.N_lower ho30 (below_size (by repeat (first | (with_reducible first | exact HB.out | apply below_alloc | apply pw_below_drewN | apply below_drew1) | exact HB.out)))); have n3_ := Aside0.mk (below_step (by repeat (first | (with_reducible first | exact HB.out | apply below_alloc | apply pw_below_drewN | apply below_drew1) | exact HB.out)) hb); clear HO129; clear HO141; clear HB; clear HO133; clear HO135; have HO129 := n0_; have HO141 := n1_; have HO144 := n2_; have HB := n3_; clear n0_ n1_ n2_ n3_; clear hb ho30; obtain ⟨Ao32, co32, eo32⟩ := Kd.N_slice HO144.out; subst eo32) | ((with_reducible refine gate_builtin (b := .append) (xs := #[.tmp 36, .tmp 39]) rfl ?_); at_builtin; refine Kd.N_append_rows (Kd.slice 5 (Kd.int .u8)) (w0 := w) w.heap.size rfl (.tmp 36) (.tmp 39) 25 22 (.slice none 0 0) 24 rfl Try.underlying25 info22 rfl (by decide) (by omega) v140 y139 y142 _ _ _ (fun _ => True) (fun k_ => ((fun _ => True)) k_ ∧ some k_ ≠ (v140 : Value).ownBlock) rfl rfl ?aO ?aR (fun _ hk => hk) ?aF ?aB ?aS ?aL ?_; (case aR => exact (by skip; exact Kd.N_F (Kd.N_mono (ok' := (fun k_ => ((fun _ => True)) k_ ∧ some k_ ≠ (v140 : Value).ownBlock)) (HO144.out) (fun k_ hk => ⟨trivial, hk.2⟩)))); (case aB => exact (by repeat (first | (with_reducible first | exact HB.out | apply below_alloc | apply pw_below_drewN | apply below_drew1) | exact HB.out))); (case aF => exact (fun _ _ => trivial)); (case aO => exact (by (with_reducible repeat (first | apply Kd.N_alloc | apply Kd.N_drewN | apply Kd.N_drew)); exact Kd.N_mono HO141.out (fun _ hk => trivial))); (case aS => exact (below_size (by repeat (first | (with_reducible first | exact HB.out | apply below_alloc | apply pw_below_drewN | apply below_drew1) | exact HB.out)))); (case aL => have := LMc12.out; omega); intro v146 w31 ho hb hg hat; rw [← Ny145.out] at ho; have n0_ := Aside0.mk (Kd.N_afterv (ok := (fun k_ => some k_ ≠ (.slice Ao32 y142.length co32 : Value).ownBlock)) (by (with_reducible repeat (first | apply Kd.N_alloc | apply Kd.N_drewN | apply Kd.N_drew)); exact Kd.N_mono HO129.out (fun _ hk => ⟨hk.2, hk.1.2⟩)) hg hat); have n1_ := Aside0.mk (Kd.N_afterv (ok := (fun k_ => some k_ ≠ (.slice Ao22 t127.length co22 : Value).ownBlock)) (by (with_reducible repeat (first | apply Kd.N_alloc | apply Kd.N_drewN | apply Kd.N_drew)); exact HO144.out) hg hat); have n2_ := Aside0.mk (hb); have n3_ := Aside0.mk (ho); clear HO129; clear HO144; clear HB; clear HO141; have HO129 := n0_; have HO144 := n1_; have HB := n2_; have HO147 := n3_; clear n0_ n1_ n2_ n3_; clear ho hb hg hat; obtain ⟨Ao33, co33, eo33⟩ := Kd.N_slice HO147.out; subst eo33) | ((with_reducible refine gate_callee (f := 12) rfl ?_); refine goesL_ (some 44) rfl rfl Try.func12 (by kernel_rfl) rfl #[.int .i64 a2, .int .i64 (y145.length : Int)] rfl (by (try simp only [List.map_toArray, List.map_cons, List.map_nil]); first | done | rfl | (simp only [List.length_drop, List.length_take]; rfl)) ?_; (with_reducible refine (ramekinlaw5_within.calls a2 (y145.length : Int) t148 _ A13.out).mono ?_); rintro e w' ⟨rfl, ⟨nd, rfl⟩⟩; refine ⟨_, rfl, ?_⟩) | ((with_reducible refine gate_callee (f := 12) rfl ?_); refine goesL_ (some 51) rfl rfl Try.func12 (by kernel_rfl) rfl #[.int .i64 a3, .int .i64 (wrap64 ((y145.length : Int) - 1))] rfl (by (try simp only [List.map_toArray, List.map_cons, List.map_nil]); first | done | rfl | (simp only [List.length_drop, List.length_take]; rfl)) ?_; (with_reducible refine (ramekinlaw5_within.calls a3 (wrap64 ((y145.length : Int) - 1)) t149 _ A14.out).mono ?_); rintro e w' ⟨rfl, ⟨nd, rfl⟩⟩; refine ⟨_, rfl, ?_⟩) | ((with_reducible refine gate_dst (N := 56) rfl ?_); refine Kd.R_lit (Kd.int .u8) _ 5 ?hg (N := 56) ?hd (xs := ([] : List Int)) (inner := []) (ok := fun _ => True) (okp := fun _ => True) ?hr ?hp (fun _ hk => hk) trivial (Below.refl _ _) (Nat.le_refl _) (by simp) ?_; (case hd => rfl); (case hg => rfl); (case hr => first | (go_simp; done) | (go_simp; rfl)); (case hp => exact (Reps.none _ _)); intro v151 w34 ho35 hb hg_ hnew_; clear hg_ hnew_; (first | rw [← Ny150.out] at ho35 | (simp only [Int.reduceToNat] at ho35; rw [← Ny150.out] at ho35)); have n0_ := Aside0.mk (Kd.N_elder' (by (with_reducible repeat (first | apply Kd.N_alloc | apply Kd.N_drewN | apply Kd.N_drew)); exact HO129.out) (Kd.R_base ho35) hb); have n1_ := Aside0.mk (Kd.N_elder' (by (with_reducible repeat (first | apply Kd.N_alloc | apply Kd.N_drewN | apply Kd.N_drew)); exact HO144.out) (Kd.R_base ho35) hb); have n2_ := Aside0.mk (Kd.N_elder' (by (with_reducible repeat (first | apply Kd.N_alloc | apply Kd.N_drewN | apply Kd.N_drew)); exact HO147.out) (Kd.R_base ho35) hb); have n3_ := Aside0.mk (Kd.R_lower ho35 (below_size (by repeat (first | (with_reducible first | exact HB.out | apply below_alloc | apply pw_below_drewN | apply below_drew1) | exact HB.out)))); have n4_ := Aside0.mk (below_step (by repeat (first | (with_reducible first | exact HB.out | apply below_alloc | apply pw_below_drewN | apply below_drew1) | exact HB.out)) hb); clear HO129; clear HO144; clear HO147; clear HB; have HO129 := n0_; have HO144 := n1_; have HO147 := n2_; have HO152 := n3_; have HB := n4_; clear n0_ n1_ n2_ n3_ n4_; clear hb ho35; have p153 : 0 ≤ ((ji16) : Int) := of_decide_eq_true (by first | (with_reducible assumption) | assumption); have q153 : (ji16) < (y145.length : Int) := of_decide_eq_true (by first | (with_reducible assumption) | assumption); obtain ⟨ad153, A153_0, c153_0, e153, hx153_0, hl153_0, hi153_0⟩ := at_L2 (Kd.N_reads' HO147.out).2.2 (ji16) p153 q153; cases e153; obtain ⟨ce153, hce153, hMe153, hcc153⟩ := Kd.N_get HO147.out [] (ji16) p153 (by first | exact q153 | exact of_decide_eq_true (by first | (with_reducible assumption) | assumption) | (have e_ := (Kd.N_reads' HO147.out).1; omega)); obtain ⟨ua153_0, uc153_0, rfl, ul153_0, ge153_0⟩ := Kd.FK_slice_open hMe153; have hv153_0 := hcc153 0 _ rfl; rw [Nat.add_zero, show ((Kd.slice 5 (Kd.int .u8))).sz = 1 from rfl, Nat.mul_one] at hv153_0; replace hv153_0 := Option.some.inj (hv153_0.symm.trans hx153_0); injection hv153_0 with hva_ hvn_ hvc_; rw [hva_] at ge153_0; rw [hvc_] at ul153_0; have HL153_0 := Aside0.mk (show Kd.V (Kd.int .u8) 5 _ w.heap.size _ _ (rd_L2 y145 (ji16)) from Kd.V_mk ul153_0 ge153_0); clear hva_ hvn_ hvc_ ge153_0 ul153_0; clear hcc153 hce153; have HR153_0 := Aside0.mk hi153_0; have HC153_0 := Aside0.mk hl153_0; clear hi153_0 hl153_0; replace p153 := eq_true p153; replace q153 := eq_true q153) | ((with_reducible refine gate_builtin (b := .append) (xs := #[.tmp 56, .tmp 60]) rfl ?_); at_builtin; refine Kd.R_append_rows (Kd.int .u8) (w0 := w) w.heap.size rfl (.tmp 56) (.tmp 60) 22 5 (.int .u8 0) 1 rfl Try.underlying22 info5 rfl (by decide) (by omega) v151 y150 (rd_L2 y145 (ji16)) _ _ _ (fun _ => True) (fun _ => False) rfl rfl ?aO ?aR (fun _ _ h => h) (fun _ h => h.elim) ?aF ?aB ?aS ?aL ?_; (case aR => repeat (first | exact (by repeat (first | (with_reducible exact HR153_0.out) | (with_reducible refine Kd.C_alloc ?_ _) | (with_reducible refine Kd.C_drewN ?_ _) | (with_reducible refine Kd.C_drew ?_) | exact HR153_0.out)) | (with_reducible refine Kd.C_alloc ?_ _) | (with_reducible refine Kd.C_drewN ?_ _) | (with_reducible refine Kd.C_drew ?_))); (case aB => exact (by repeat (first | (with_reducible first | exact HB.out | apply below_alloc | apply pw_below_drewN | apply below_drew1) | exact HB.out))); (case aF => exact (fun _ _ => trivial)); (case aO => exact (by (with_reducible repeat (first | apply Kd.R_alloc | apply Kd.R_drewN | apply Kd.R_drew)); exact HO152.out)); (case aS => exact (below_size (by repeat (first | (with_reducible first | exact HB.out | apply below_alloc | apply pw_below_drewN | apply below_drew1) | exact HB.out)))); (case aL => have := LMc19.out; omega); intro v155 w36 ho hb hg hat; rw [← Ny154.out] at ho; have n0_ := Aside0.mk (Kd.N_afterv (ok := (fun k_ => some k_ ≠ (.slice Ao32 y142.length co32 : Value).ownBlock ∧ some k_ ≠ (.slice (some ad153) y145.length co33 : Value).ownBlock)) (by (with_reducible repeat (first | apply Kd.N_alloc | apply Kd.N_drewN | apply Kd.N_drew)); exact HO129.out) hg hat); have n1_ := Aside0.mk (Kd.N_afterv (ok := (fun k_ => some k_ ≠ (.slice Ao22 t127.length co22 : Value).ownBlock ∧ some k_ ≠ (.slice (some ad153) y145.length co33 : Value).ownBlock)) (by (with_reducible repeat (first | apply Kd.N_alloc | apply Kd.N_drewN | apply Kd.N_drew)); exact HO144.out) hg hat); have n2_ := Aside0.mk (Kd.N_afterv (ok := (fun _ => True)) (by (with_reducible repeat (first | apply Kd.N_alloc | apply Kd.N_drewN | apply Kd.N_drew)); exact HO147.out) hg hat); have n3_ := Aside0.mk (Kd.V_afterv (ok := (fun k_ => some k_ ≠ (.slice (some ad153) y145.length co33 : Value).ownBlock)) (by (with_reducible repeat (first | apply Kd.V_alloc | apply Kd.V_drewN | apply Kd.V_drew)); exact Kd.V_mono HL153_0.out (fun _ hk => ⟨hk.2, hk.1.2⟩)) hg hat); have n4_ := Aside0.mk (hb); have n5_ := Aside0.mk (ho); clear HO129; clear HO144; clear HO147; clear HL153_0; clear HB; clear HO152; have HO129 := n0_; have HO144 := n1_; have HO147 := n2_; have HL153_0 := n3_; have HB := n4_; have HO156 := n5_; clear n0_ n1_ n2_ n3_ n4_ n5_; clear ho hb hg hat))
                go_loopg [18, 19] k (fun kq v18 v19 w' => ∃ (x17_1 : List Int) (x18_1 : Bool) (x19_1 : Int), v18 = .bool x18_1 ∧ v19 = .int .i64 x19_1 ∧ Aside0 (ramekinlaw5_RsDetects.l0 kq l4 y145 t148 ji16 x17_1 x18_1 x19_1 = some r) ∧ Aside0 (kq ≤ k) ∧ Aside0 (Kd.N (Kd.slice 5 (Kd.int .u8)) 22 w' w.heap.size (fun k_ => some k_ ≠ (v155 : Value).ownBlock) (.slice (some ad153) y145.length co33) y145) ∧ Aside0 (Kd.R (Kd.int .u8) 5 w' w.heap.size (fun _ => True) v155 x17_1) ∧ Aside0 (Below w.heap.size w w'))
                case atStart => exact ⟨(y154), (false), (0), (by first | rfl | (simp; done) | (simp [*]; done)), (by first | rfl | (simp; done) | (simp [*]; done)), H', ⟨Nat.le_refl _⟩, ⟨by (with_reducible repeat (first | apply Kd.N_alloc | apply Kd.N_drewN | apply Kd.N_drew)); exact Kd.N_mono HO147.out (fun _ hk => hk.2)⟩, ⟨by (with_reducible repeat (first | apply Kd.R_alloc | apply Kd.R_drewN | apply Kd.R_drew)); exact HO156.out⟩, ⟨by repeat (first | (with_reducible first | exact HB.out | apply below_alloc | apply pw_below_drewN | apply below_drew1) | exact HB.out)⟩⟩
                case round =>
                  clear H'
                  try clear c1
                  try clear p1
                  try clear q1
                  try clear hx1
                  try clear p2
                  try clear c4
                  try clear p6
                  try clear c7
                  try clear c8
                  try clear c11
                  try clear c12
                  try clear c13
                  try clear c15
                  try clear c15b0
                  try clear c15b1
                  try clear c15b2
                  try clear p15
                  try clear q15
                  try clear hx15
                  try clear c17
                  try clear c17b0
                  try clear c18
                  try clear c18b0
                  try clear c19
                  try clear hx153_0
                  try clear p153
                  try clear q153
                  obtain ⟨x17_1, x18_1, x19_1, rfl, rfl, HA, HK1, HO_14, HO_17, HB⟩ := hrel
                  cases gk with
                  | zero => exact absurd HA.out (by simp [ramekinlaw5_RsDetects.l0])
                  | succ k1 =>
                    have H := HA.out
                    clear HA
                    simp only [ramekinlaw5_RsDetects.l0] at H
                    by_cases c37 : x19_1 < (l4.length : Int)
                    · rw [if_pos c37] at H
                      have c37b0 : decide (x19_1 < (l4.length : Int)) = true := decide_eq_true c37
                      clear c37
                      by_cases c38 : x19_1 < 8
                      · rw [if_pos c38] at H
                        have c38b0 : decide (x19_1 < 8) = true := decide_eq_true c38
                        clear c38
                        by_cases c39 : 0 ≤ x19_1
                        · rw [if_pos c39] at H
                          have c39b0 : decide (0 ≤ x19_1) = true := decide_eq_true c39
                          clear c39
                          by_cases c40 : x19_1 < (x17_1.length : Int)
                          · rw [if_pos c40] at H
                            have c40b0 : decide (x19_1 < (x17_1.length : Int)) = true := decide_eq_true c40
                            clear c40
                            obtain ⟨y159, hy159⟩ : ∃ y_ : List Int, y_ = (x17_1.set (x19_1 : Int).toNat (Go.bits .xor .u8 (rd x17_1 x19_1) (rd l4 x19_1))) := ⟨_, rfl⟩
                            replace H : (if x18_1 = true then (ramekinlaw5_RsDetects.l0 k1 l4 y145 t148 ji16 y159 true (wrap64 (x19_1 + 1))) else (ramekinlaw5_RsDetects.l0 k1 l4 y145 t148 ji16 y159 ((rd l4 x19_1) != 0) (wrap64 (x19_1 + 1)))) = some r := by first | (rw [hy159]; with_reducible exact H) | (have H2_ := (Option.bind_some _ _).symm.trans H; rw [hy159]; with_reducible exact H2_) | (have H2_ := (Option.bind_some _ _).symm.trans H; with_reducible exact H2_) | with_reducible exact H | (rw [hy159]; exact H) | exact H
                            have Ny159 := Aside0.mk hy159
                            clear hy159
                            by_cases c42 : x18_1 = true
                            · subst c42
                              have H1 : (ramekinlaw5_RsDetects.l0 k1 l4 y145 t148 ji16 y159 true (wrap64 (x19_1 + 1))) = some r := by rw [if_pos rfl] at H; exact H
                              clear H
                              have H := H1
                              clear H1
                              have H' := Aside0.mk H
                              clear H
                              try go_wp2
                              have n0_ := Aside0.mk (Kd.N_drew HO_14.out)
                              have n1_ := Aside0.mk (Kd.R_drew HO_17.out)
                              have n2_ := Aside0.mk (below_drew1 HB.out)
                              clear HO_14
                              clear HO_17
                              clear HB
                              have HO_14 := n0_
                              have HO_17 := n1_
                              have HB := n2_
                              clear n0_ n1_ n2_
                              obtain ⟨Ao44, co44, eo44⟩ := Kd.R_slice HO_17.out
                              (first | subst eo44 | (injection eo44 with f1_ f2_ f3_; have f4_ := f1_.symm; have f5_ := f3_.symm; clear f1_ f2_ f3_; subst f4_; subst f5_))
                              have p157 : 0 ≤ (x19_1 : Int) := of_decide_eq_true (by first | (with_reducible assumption) | assumption)
                              have q157 : x19_1 < (x17_1.length : Int) := of_decide_eq_true (by first | (with_reducible assumption) | assumption)
                              obtain ⟨ad157, e157, hx157_0⟩ := Kd.at_int (Kd.R_reads' HO_17.out).2.2 x19_1 p157 q157
                              cases e157
                              replace p157 := eq_true p157
                              replace q157 := eq_true q157
                              have p158 : 0 ≤ (x19_1 : Int) := of_decide_eq_true (by first | (with_reducible assumption) | assumption)
                              have q158 : x19_1 < (l4.length : Int) := of_decide_eq_true (by first | (with_reducible assumption) | assumption)
                              obtain ⟨ad158, e158, hx158_0⟩ := Kd.at_int HR4.out x19_1 p158 q158
                              have hw158_0 := hx158_0
                              cases e158
                              replace hx158_0 := (HB.out.cell (World.block_lt_of_cell? w _ hx158_0)).trans hx158_0
                              replace p158 := eq_true p158
                              replace q158 := eq_true q158
                              have p41 : 0 ≤ (x19_1 : Int) := of_decide_eq_true (by first | (with_reducible assumption) | assumption)
                              have q41 : (x19_1 : Int) < ((x17_1.length : Int) : Int) := of_decide_eq_true (by first | (with_reducible assumption) | assumption)
                              obtain ⟨go41, co41, eo41, gb41, gl41, cl41, HG41⟩ := Kd.R_form HO_17.out (by omega)
                              (first | cases eo41 | (injection eo41 with ea_ en_ ec_; (first | subst ea_ | (injection ea_ with ea_; subst ea_)); subst ec_; clear en_))
                              have GB41 := Aside0.mk gb41
                              have GG41 := Aside0.mk HG41
                              clear gb41 gl41 HG41
                              (first | simp only [add_plain] at hx157_0 | skip)
                              obtain ⟨hx41_0, hf41_0⟩ := Kd.R_celln 0 HO_17.out (x19_1 : Int) p41 q41
                              replace p41 := eq_true p41
                              replace q41 := eq_true q41
                              have HP45 := Kd.R_putn HO_17.out (x19_1 : Int) (Go.bits .xor .u8 (rd x17_1 x19_1) (rd l4 x19_1))
                              rw [← Ny159.out] at HP45
                              have HQ45 := Aside0.mk HP45
                              clear HP45
                              refine start_ (n := 11) (S := fun w' => w'.cell? ⟨go41, (x19_1).toNat, none⟩ = some (.int .u8 (rd x17_1 x19_1)) ∧ w'.cell? (ad158.add (x19_1).toNat) = some (.int .u8 (rd l4 x19_1))) (ds := [10]) #[false, false, false, false, false, false, false, false, false, false, false] (by kernel_rfl) rfl rfl ⟨hx157_0, ((HB.out.cell (World.block_lt_of_cell? w _ hw158_0)).trans hw158_0)⟩ (fun hHeld => ?_); refine with_tabW ramekinlaw5_RsDetects.tab13 ramekinlaw5_RsDetects.bits13 (fun HT_ HW_ => ?_)
                              generalize wr.drew = w43 at HO_14 HO_17 HB GG41 HQ45 hf41_0 hx157_0 hx158_0 hx41_0 hHeld ⊢
                              refine pure_ (i := 0) (N := some 72) (v := ?_) (a' := ?_) #[true, false, false, false, false, false, false, false, false, false, false] rfl rfl (any_of HT_.out (by kernel_rfl)) (fun _ _ _ h => h) (Or.inl ⟨by rfl, ?_⟩) ?_ ?_
                              rotate_left
                              · intro w'
                                go_simp
                                with_reducible rfl
                              rotate_left
                              · simp only [Act.put, List.setIfInBounds_toArray, List.set_cons_zero, List.set_cons_succ, i64_w, i32_w]
                                rfl
                              refine pure_ (i := 1) (N := some 73) (v := ?_) (a' := ?_) #[true, true, false, false, false, false, false, false, false, false, false] rfl rfl (any_of HT_.out (by kernel_rfl)) (fun _ _ _ h => h) (Or.inl ⟨by rfl, ?_⟩) ?_ ?_
                              rotate_left
                              · intro w'
                                go_simp
                                with_reducible rfl
                              rotate_left
                              · simp only [Act.put, List.setIfInBounds_toArray, List.set_cons_zero, List.set_cons_succ, i64_w, i32_w]
                                rfl
                              refine pure_ (i := 2) (N := some 74) (v := ?_) (a' := ?_) #[true, true, true, false, false, false, false, false, false, false, false] rfl rfl (any_of HT_.out (by kernel_rfl)) (fun _ _ _ h => h) (Or.inl ⟨by rfl, ?_⟩) ?_ ?_
                              rotate_left
                              · intro w'
                                go_simp
                                with_reducible rfl
                              rotate_left
                              · simp only [Act.put, List.setIfInBounds_toArray, List.set_cons_zero, List.set_cons_succ, i64_w, i32_w]
                                rfl
                              refine pure_ (i := 4) (N := some 76) (v := ?_) (a' := ?_) #[true, true, true, false, true, false, false, false, false, false, false] rfl rfl (any_of HT_.out (by kernel_rfl)) (fun _ _ _ h => h) (Or.inl ⟨by rfl, ?_⟩) ?_ ?_
                              rotate_left
                              · intro w'
                                go_simp
                                with_reducible rfl
                              rotate_left
                              · simp only [Act.put, List.setIfInBounds_toArray, List.set_cons_zero, List.set_cons_succ, i64_w, i32_w]
                                rfl
                              refine pure_ (i := 5) (N := some 77) (v := ?_) (a' := ?_) #[true, true, true, false, true, true, false, false, false, false, false] rfl rfl (any_of HT_.out (by kernel_rfl)) (fun _ _ _ h => h) (Or.inl ⟨by rfl, ?_⟩) ?_ ?_
                              rotate_left
                              · intro w'
                                go_simp
                                with_reducible rfl
                              rotate_left
                              · simp only [Act.put, List.setIfInBounds_toArray, List.set_cons_zero, List.set_cons_succ, i64_w, i32_w]
                                rfl
                              refine pure_ (i := 6) (N := some 78) (v := ?_) (a' := ?_) #[true, true, true, false, true, true, true, false, false, false, false] rfl rfl (any_of HT_.out (by kernel_rfl)) (fun _ _ _ h => h) (Or.inl ⟨by rfl, ?_⟩) ?_ ?_
                              rotate_left
                              · intro w'
                                go_simp
                                with_reducible rfl
                              rotate_left
                              · simp only [Act.put, List.setIfInBounds_toArray, List.set_cons_zero, List.set_cons_succ, i64_w, i32_w]
                                rfl
                              refine take_ (i := 3) (N := some 75) (v := ?_) (a' := ?_) #[true, true, true, true, true, true, true, false, false, false, false] rfl rfl (take_ofW HT_.out HW_.out (by kernel_rfl)) (fun _ _ _ h => h) (Or.inl ⟨by rfl, ?_⟩) hHeld ?_ ?_
                              rotate_left
                              · rintro w' ⟨s0, s1⟩
                                go_simp
                                with_reducible rfl
                              rotate_left
                              · simp only [Act.put, List.setIfInBounds_toArray, List.set_cons_zero, List.set_cons_succ, i64_w, i32_w]
                                rfl
                              refine take_ (i := 7) (N := some 79) (v := ?_) (a' := ?_) #[true, true, true, true, true, true, true, true, false, false, false] rfl rfl (take_ofW HT_.out HW_.out (by kernel_rfl)) (fun _ _ _ h => h) (Or.inl ⟨by rfl, ?_⟩) hHeld ?_ ?_
                              rotate_left
                              · rintro w' ⟨s0, s1⟩
                                go_simp
                                with_reducible rfl
                              rotate_left
                              · simp only [Act.put, List.setIfInBounds_toArray, List.set_cons_zero, List.set_cons_succ, i64_w, i32_w]
                                rfl
                              refine pure_ (i := 8) (N := some 80) (v := ?_) (a' := ?_) #[true, true, true, true, true, true, true, true, true, false, false] rfl rfl (any_of HT_.out (by kernel_rfl)) (fun _ _ _ h => h) (Or.inl ⟨by rfl, ?_⟩) ?_ ?_
                              rotate_left
                              · intro w'
                                go_simp
                                with_reducible rfl
                              rotate_left
                              · simp only [Act.put, List.setIfInBounds_toArray, List.set_cons_zero, List.set_cons_succ, i64_w, i32_w]
                                rfl
                              refine pure_ (i := 9) (N := some 81) (v := ?_) (a' := ?_) #[true, true, true, true, true, true, true, true, true, true, false] rfl rfl (any_of HT_.out (by kernel_rfl)) (fun _ _ _ h => h) (Or.inl ⟨by rfl, ?_⟩) ?_ ?_
                              rotate_left
                              · intro w'
                                go_simp
                                with_reducible rfl
                              rotate_left
                              · simp only [Act.put, List.setIfInBounds_toArray, List.set_cons_zero, List.set_cons_succ, i64_w, i32_w]
                                rfl
                              refine last_ (i := 10) (N := none) #[true, true, true, true, true, true, true, true, true, true, true] rfl rfl (one_of HT_.out (by kernel_rfl)) (by decide) (fun K hK => ?_)
                              refine skip_ (w1 := ?_) (by rfl) rfl ?_ ?_
                              rotate_left
                              · go_simp
                                rfl
                              refine hK.out _ _ ?_
                              clear hK K
                              refine done_ (done_of HT_.out (by kernel_rfl)) ?_
                              try go_wp2
                              go_roundg k1
                              case measure => have := HK1.out; omega
                              case rel => exact ⟨(y159), (true), (wrap64 (x19_1 + 1)), (by first | rfl | (simp; done) | (simp [*]; done)), (by first | rfl | (simp; done) | (simp [*]; done)), H', ⟨by have := HK1.out; omega⟩, ⟨by (with_reducible repeat (first | apply Kd.N_alloc | apply Kd.N_drewN | apply Kd.N_drew)); exact Kd.N_mono (Kd.N_far (p := ⟨go41, (x19_1 : Int).toNat, none⟩) (Kd.N_mono HO_14.out (fun k_ hk => (⟨hk, fun e_ => hk (by rw [e_]; rfl)⟩ : _ ∧ k_ ≠ go41))) (fun _ hk => hk.2) (.int .u8 (Go.bits .xor .u8 (rd x17_1 x19_1) (rd l4 x19_1)))) (fun _ hk => hk.1)⟩, ⟨by (with_reducible repeat (first | apply Kd.R_alloc | apply Kd.R_drewN | apply Kd.R_drew)); exact HQ45.out⟩, ⟨by repeat (first | (with_reducible first | exact HB.out | apply below_alloc | apply pw_below_drewN | apply below_drew1 | refine below_set ?_ GB41.out) | exact HB.out)⟩⟩
                            · replace c42 := Bool.eq_false_iff.mpr c42
                              subst c42
                              have H1 : (ramekinlaw5_RsDetects.l0 k1 l4 y145 t148 ji16 y159 ((rd l4 x19_1) != 0) (wrap64 (x19_1 + 1))) = some r := by rw [if_neg (show ¬ (false = true) by decide)] at H; exact H
                              clear H
                              have H := H1
                              clear H1
                              have H' := Aside0.mk H
                              clear H
                              try go_wp2
                              have n0_ := Aside0.mk (Kd.N_drew HO_14.out)
                              have n1_ := Aside0.mk (Kd.R_drew HO_17.out)
                              have n2_ := Aside0.mk (below_drew1 HB.out)
                              clear HO_14
                              clear HO_17
                              clear HB
                              have HO_14 := n0_
                              have HO_17 := n1_
                              have HB := n2_
                              clear n0_ n1_ n2_
                              obtain ⟨Ao47, co47, eo47⟩ := Kd.R_slice HO_17.out
                              (first | subst eo47 | (injection eo47 with f1_ f2_ f3_; have f4_ := f1_.symm; have f5_ := f3_.symm; clear f1_ f2_ f3_; subst f4_; subst f5_))
                              have p157 : 0 ≤ (x19_1 : Int) := of_decide_eq_true (by first | (with_reducible assumption) | assumption)
                              have q157 : x19_1 < (x17_1.length : Int) := of_decide_eq_true (by first | (with_reducible assumption) | assumption)
                              obtain ⟨ad157, e157, hx157_0⟩ := Kd.at_int (Kd.R_reads' HO_17.out).2.2 x19_1 p157 q157
                              cases e157
                              replace p157 := eq_true p157
                              replace q157 := eq_true q157
                              have p158 : 0 ≤ (x19_1 : Int) := of_decide_eq_true (by first | (with_reducible assumption) | assumption)
                              have q158 : x19_1 < (l4.length : Int) := of_decide_eq_true (by first | (with_reducible assumption) | assumption)
                              obtain ⟨ad158, e158, hx158_0⟩ := Kd.at_int HR4.out x19_1 p158 q158
                              have hw158_0 := hx158_0
                              cases e158
                              replace hx158_0 := (HB.out.cell (World.block_lt_of_cell? w _ hx158_0)).trans hx158_0
                              replace p158 := eq_true p158
                              replace q158 := eq_true q158
                              have p41 : 0 ≤ (x19_1 : Int) := of_decide_eq_true (by first | (with_reducible assumption) | assumption)
                              have q41 : (x19_1 : Int) < ((x17_1.length : Int) : Int) := of_decide_eq_true (by first | (with_reducible assumption) | assumption)
                              obtain ⟨go41, co41, eo41, gb41, gl41, cl41, HG41⟩ := Kd.R_form HO_17.out (by omega)
                              (first | cases eo41 | (injection eo41 with ea_ en_ ec_; (first | subst ea_ | (injection ea_ with ea_; subst ea_)); subst ec_; clear en_))
                              have GB41 := Aside0.mk gb41
                              have GG41 := Aside0.mk HG41
                              clear gb41 gl41 HG41
                              (first | simp only [add_plain] at hx157_0 | skip)
                              obtain ⟨hx41_0, hf41_0⟩ := Kd.R_celln 0 HO_17.out (x19_1 : Int) p41 q41
                              replace p41 := eq_true p41
                              replace q41 := eq_true q41
                              have HP48 := Kd.R_putn HO_17.out (x19_1 : Int) (Go.bits .xor .u8 (rd x17_1 x19_1) (rd l4 x19_1))
                              rw [← Ny159.out] at HP48
                              have HQ48 := Aside0.mk HP48
                              clear HP48
                              refine start_ (n := 11) (S := fun w' => w'.cell? ⟨go41, (x19_1).toNat, none⟩ = some (.int .u8 (rd x17_1 x19_1)) ∧ w'.cell? (ad158.add (x19_1).toNat) = some (.int .u8 (rd l4 x19_1))) (ds := [10]) #[false, false, false, false, false, false, false, false, false, false, false] (by kernel_rfl) rfl rfl ⟨hx157_0, ((HB.out.cell (World.block_lt_of_cell? w _ hw158_0)).trans hw158_0)⟩ (fun hHeld => ?_); refine with_tabW ramekinlaw5_RsDetects.tab13 ramekinlaw5_RsDetects.bits13 (fun HT_ HW_ => ?_)
                              generalize wr.drew = w46 at HO_14 HO_17 HB GG41 HQ48 hf41_0 hx157_0 hx158_0 hx41_0 hHeld ⊢
                              refine pure_ (i := 0) (N := some 72) (v := ?_) (a' := ?_) #[true, false, false, false, false, false, false, false, false, false, false] rfl rfl (any_of HT_.out (by kernel_rfl)) (fun _ _ _ h => h) (Or.inl ⟨by rfl, ?_⟩) ?_ ?_
                              rotate_left
                              · intro w'
                                go_simp
                                with_reducible rfl
                              rotate_left
                              · simp only [Act.put, List.setIfInBounds_toArray, List.set_cons_zero, List.set_cons_succ, i64_w, i32_w]
                                rfl
                              refine pure_ (i := 1) (N := some 73) (v := ?_) (a' := ?_) #[true, true, false, false, false, false, false, false, false, false, false] rfl rfl (any_of HT_.out (by kernel_rfl)) (fun _ _ _ h => h) (Or.inl ⟨by rfl, ?_⟩) ?_ ?_
                              rotate_left
                              · intro w'
                                go_simp
                                with_reducible rfl
                              rotate_left
                              · simp only [Act.put, List.setIfInBounds_toArray, List.set_cons_zero, List.set_cons_succ, i64_w, i32_w]
                                rfl
                              refine pure_ (i := 2) (N := some 74) (v := ?_) (a' := ?_) #[true, true, true, false, false, false, false, false, false, false, false] rfl rfl (any_of HT_.out (by kernel_rfl)) (fun _ _ _ h => h) (Or.inl ⟨by rfl, ?_⟩) ?_ ?_
                              rotate_left
                              · intro w'
                                go_simp
                                with_reducible rfl
                              rotate_left
                              · simp only [Act.put, List.setIfInBounds_toArray, List.set_cons_zero, List.set_cons_succ, i64_w, i32_w]
                                rfl
                              refine pure_ (i := 4) (N := some 76) (v := ?_) (a' := ?_) #[true, true, true, false, true, false, false, false, false, false, false] rfl rfl (any_of HT_.out (by kernel_rfl)) (fun _ _ _ h => h) (Or.inl ⟨by rfl, ?_⟩) ?_ ?_
                              rotate_left
                              · intro w'
                                go_simp
                                with_reducible rfl
                              rotate_left
                              · simp only [Act.put, List.setIfInBounds_toArray, List.set_cons_zero, List.set_cons_succ, i64_w, i32_w]
                                rfl
                              refine pure_ (i := 5) (N := some 77) (v := ?_) (a' := ?_) #[true, true, true, false, true, true, false, false, false, false, false] rfl rfl (any_of HT_.out (by kernel_rfl)) (fun _ _ _ h => h) (Or.inl ⟨by rfl, ?_⟩) ?_ ?_
                              rotate_left
                              · intro w'
                                go_simp
                                with_reducible rfl
                              rotate_left
                              · simp only [Act.put, List.setIfInBounds_toArray, List.set_cons_zero, List.set_cons_succ, i64_w, i32_w]
                                rfl
                              refine pure_ (i := 6) (N := some 78) (v := ?_) (a' := ?_) #[true, true, true, false, true, true, true, false, false, false, false] rfl rfl (any_of HT_.out (by kernel_rfl)) (fun _ _ _ h => h) (Or.inl ⟨by rfl, ?_⟩) ?_ ?_
                              rotate_left
                              · intro w'
                                go_simp
                                with_reducible rfl
                              rotate_left
                              · simp only [Act.put, List.setIfInBounds_toArray, List.set_cons_zero, List.set_cons_succ, i64_w, i32_w]
                                rfl
                              refine take_ (i := 3) (N := some 75) (v := ?_) (a' := ?_) #[true, true, true, true, true, true, true, false, false, false, false] rfl rfl (take_ofW HT_.out HW_.out (by kernel_rfl)) (fun _ _ _ h => h) (Or.inl ⟨by rfl, ?_⟩) hHeld ?_ ?_
                              rotate_left
                              · rintro w' ⟨s0, s1⟩
                                go_simp
                                with_reducible rfl
                              rotate_left
                              · simp only [Act.put, List.setIfInBounds_toArray, List.set_cons_zero, List.set_cons_succ, i64_w, i32_w]
                                rfl
                              refine take_ (i := 7) (N := some 79) (v := ?_) (a' := ?_) #[true, true, true, true, true, true, true, true, false, false, false] rfl rfl (take_ofW HT_.out HW_.out (by kernel_rfl)) (fun _ _ _ h => h) (Or.inl ⟨by rfl, ?_⟩) hHeld ?_ ?_
                              rotate_left
                              · rintro w' ⟨s0, s1⟩
                                go_simp
                                with_reducible rfl
                              rotate_left
                              · simp only [Act.put, List.setIfInBounds_toArray, List.set_cons_zero, List.set_cons_succ, i64_w, i32_w]
                                rfl
                              refine pure_ (i := 8) (N := some 80) (v := ?_) (a' := ?_) #[true, true, true, true, true, true, true, true, true, false, false] rfl rfl (any_of HT_.out (by kernel_rfl)) (fun _ _ _ h => h) (Or.inl ⟨by rfl, ?_⟩) ?_ ?_
                              rotate_left
                              · intro w'
                                go_simp
                                with_reducible rfl
                              rotate_left
                              · simp only [Act.put, List.setIfInBounds_toArray, List.set_cons_zero, List.set_cons_succ, i64_w, i32_w]
                                rfl
                              refine pure_ (i := 9) (N := some 81) (v := ?_) (a' := ?_) #[true, true, true, true, true, true, true, true, true, true, false] rfl rfl (any_of HT_.out (by kernel_rfl)) (fun _ _ _ h => h) (Or.inl ⟨by rfl, ?_⟩) ?_ ?_
                              rotate_left
                              · intro w'
                                go_simp
                                with_reducible rfl
                              rotate_left
                              · simp only [Act.put, List.setIfInBounds_toArray, List.set_cons_zero, List.set_cons_succ, i64_w, i32_w]
                                rfl
                              refine last_ (i := 10) (N := none) #[true, true, true, true, true, true, true, true, true, true, true] rfl rfl (one_of HT_.out (by kernel_rfl)) (by decide) (fun K hK => ?_)
                              refine skip_ (w1 := ?_) (by rfl) rfl ?_ ?_
                              rotate_left
                              · go_simp
                                rfl
                              refine hK.out _ _ ?_
                              clear hK K
                              refine done_ (done_of HT_.out (by kernel_rfl)) ?_
                              have p160 : 0 ≤ (x19_1 : Int) := of_decide_eq_true (by first | (with_reducible assumption) | assumption)
                              have q160 : x19_1 < (l4.length : Int) := of_decide_eq_true (by first | (with_reducible assumption) | assumption)
                              obtain ⟨ad160, e160, hx160_0⟩ := Kd.at_int HR4.out x19_1 p160 q160
                              obtain rfl : ad158 = ad160 := (by injection e160)
                              have hn160_0 : ad158.block ≠ go41 := Nat.ne_of_lt (Nat.lt_of_lt_of_le (by have := World.block_lt_of_cell? _ _ hx160_0; first | rwa [add_block] at this | exact this) GB41.out)
                              replace hx160_0 := (HB.out.cell (World.block_lt_of_cell? w _ hx160_0)).trans hx160_0
                              replace hx160_0 := (cell_far (p := ⟨go41, (x19_1 : Int).toNat, none⟩) (by first | (rw [add_block]; exact hn160_0) | (show (Addr.add _ _).block ≠ _; rw [add_block]; exact hn160_0) | exact hn160_0) (.int .u8 (Go.bits .xor .u8 (rd x17_1 x19_1) (rd l4 x19_1)))).trans hx160_0
                              clear hn160_0
                              replace p160 := eq_true p160
                              replace q160 := eq_true q160
                              try go_wp2
                              go_roundg k1
                              case measure => have := HK1.out; omega
                              case rel => exact ⟨(y159), (((rd l4 x19_1) != 0)), (wrap64 (x19_1 + 1)), (by first | rfl | (simp; done) | (simp [*]; done)), (by first | rfl | (simp; done) | (simp [*]; done)), H', ⟨by have := HK1.out; omega⟩, ⟨by (with_reducible repeat (first | apply Kd.N_alloc | apply Kd.N_drewN | apply Kd.N_drew)); exact Kd.N_mono (Kd.N_far (p := ⟨go41, (x19_1 : Int).toNat, none⟩) (Kd.N_mono HO_14.out (fun k_ hk => (⟨hk, fun e_ => hk (by rw [e_]; rfl)⟩ : _ ∧ k_ ≠ go41))) (fun _ hk => hk.2) (.int .u8 (Go.bits .xor .u8 (rd x17_1 x19_1) (rd l4 x19_1)))) (fun _ hk => hk.1)⟩, ⟨by (with_reducible repeat (first | apply Kd.R_alloc | apply Kd.R_drewN | apply Kd.R_drew)); exact HQ48.out⟩, ⟨by repeat (first | (with_reducible first | exact HB.out | apply below_alloc | apply pw_below_drewN | apply below_drew1 | refine below_set ?_ GB41.out) | exact HB.out)⟩⟩
                          · rw [if_neg c40] at H
                            exact absurd H (by simp)
                        · rw [if_neg c39] at H
                          exact absurd H (by simp)
                      · rw [if_neg c38] at H
                        have c38b0 : decide (x19_1 < 8) = false := decide_eq_false c38
                        clear c38
                        by_cases c49 : 0 ≤ ji16
                        · rw [if_pos c49] at H
                          have c49b0 : decide (0 ≤ ji16) = true := decide_eq_true c49
                          clear c49
                          by_cases c50 : ji16 < (y145.length : Int)
                          · rw [if_pos c50] at H
                            have c50b0 : decide (ji16 < (y145.length : Int)) = true := decide_eq_true c50
                            clear c50
                            obtain ⟨y161, hy161⟩ : ∃ y_ : List (List Int), y_ = (y145.set (ji16 : Int).toNat x17_1) := ⟨_, rfl⟩
                            replace H : ((rs_Fix.f y161 (([t148] : List Int))).bind fun bt165 => (if bt165.2 = true then ((rs_Check.f bt165.1).bind fun t169 => (some (t169 == (!x18_1)))) else (some false))) = some r := by first | (rw [hy161]; with_reducible exact H) | (have H2_ := (Option.bind_some _ _).symm.trans H; rw [hy161]; with_reducible exact H2_) | (have H2_ := (Option.bind_some _ _).symm.trans H; with_reducible exact H2_) | with_reducible exact H | (rw [hy161]; exact H) | exact H
                            have Ny161 := Aside0.mk hy161
                            clear hy161
                            obtain ⟨y162, hy162⟩ : ∃ y_ : List Int, y_ = (([t148] : List Int)) := ⟨_, rfl⟩
                            replace H : ((rs_Fix.f y161 y162).bind fun bt165 => (if bt165.2 = true then ((rs_Check.f bt165.1).bind fun t169 => (some (t169 == (!x18_1)))) else (some false))) = some r := by first | (rw [hy162]; with_reducible exact H) | (have H2_ := (Option.bind_some _ _).symm.trans H; rw [hy162]; with_reducible exact H2_) | (have H2_ := (Option.bind_some _ _).symm.trans H; with_reducible exact H2_) | with_reducible exact H | (rw [hy162]; exact H) | exact H
                            have Ny162 := Aside0.mk hy162
                            clear hy162
                            replace H := Option.bind_eq_some_iff.mp H
                            obtain ⟨⟨t165, t168⟩, A520, H⟩ := H
                            replace H : (if t168 = true then ((rs_Check.f t165).bind fun t169 => (some (t169 == (!x18_1)))) else (some false)) = some r := H
                            have A52 := Aside0.mk A520
                            clear A520
                            by_cases c53 : t168 = true
                            · subst c53
                              have H1 : ((rs_Check.f t165).bind fun t169 => (some (t169 == (!x18_1)))) = some r := by rw [if_pos rfl] at H; exact H
                              clear H
                              have H := H1
                              clear H1
                              replace H := Option.bind_eq_some_iff.mp H
                              obtain ⟨t169, A540, H⟩ := H
                              replace H : (some (t169 == (!x18_1))) = some r := H
                              have A54 := Aside0.mk A540
                              clear A540
                              obtain rfl := Option.some.inj H
                              have p51 : 0 ≤ (ji16 : Int) := of_decide_eq_true (by first | (with_reducible assumption) | assumption)
                              have q51 : (ji16 : Int) < ((y145.length : Int) : Int) := of_decide_eq_true (by first | (with_reducible assumption) | assumption)
                              obtain ⟨go51, co51, eo51, gb51, gl51, cl51, HG51⟩ := Kd.N_form HO_14.out (by omega)
                              (first | cases eo51 | (injection eo51 with ea_ en_ ec_; (first | subst ea_ | (injection ea_ with ea_; subst ea_)); subst ec_; clear en_))
                              have GB51 := Aside0.mk gb51
                              have GG51 := Aside0.mk HG51
                              clear gb51 gl51 HG51
                              (first | simp only [add_plain] at hx153_0 | skip)
                              obtain ⟨ce51, hcl51, hM51, hcc51, hfr51⟩ := Kd.N_elem HO_14.out [] (ji16 : Int) p51 q51
                              obtain ⟨ua51_0, uc51_0, rfl, ul51_0, ge51_0⟩ := Kd.FK_slice_open hM51
                              have hx51_0 := hcc51 0 _ rfl
                              have hf51_0 := hfr51 0
                              (try simp only [show ((Kd.slice 5 (Kd.int .u8))).sz = 1 from rfl, Nat.mul_one, Nat.add_zero] at hx51_0)
                              (try simp only [show ((Kd.slice 5 (Kd.int .u8))).sz = 1 from rfl, Nat.mul_one, Nat.add_zero] at hf51_0)
                              clear hcl51 hcc51 hfr51 hM51
                              replace p51 := eq_true p51
                              replace q51 := eq_true q51
                              have HX55 := Aside0.mk (show Kd.N (Kd.slice 5 (Kd.int .u8)) 22 wr w.heap.size (fun _ => True) (.slice (some ⟨go51, 0, none⟩) y145.length co33) y145 from (by (with_reducible repeat (first | apply Kd.N_alloc | apply Kd.N_drewN | apply Kd.N_drew)); exact Kd.N_mono HO_14.out (fun _ hk => trivial)))
                              obtain ⟨ce55, hcl55, hM55, hcc55, hfr55⟩ := Kd.N_elem HX55.out [] (ji16 : Int) (of_decide_eq_true (by first | (with_reducible assumption) | assumption)) (by have h_ : (ji16 : Int) < ((y145.length : Int) : Int) := of_decide_eq_true (by first | (with_reducible assumption) | assumption); first | exact h_ | (have e_ := (Kd.N_reads' HO_14.out).1; omega) | simpa using h_)
                              obtain ⟨ua55_0, uc55_0, rfl, ul55_0, ge55_0⟩ := Kd.FK_slice_open hM55
                              have HP55 := Kd.N_seg HX55.out (ji16 : Int) (of_decide_eq_true (by first | (with_reducible assumption) | assumption)) (by have h_ : (ji16 : Int) < ((y145.length : Int) : Int) := of_decide_eq_true (by first | (with_reducible assumption) | assumption); first | exact h_ | (have e_ := (Kd.N_reads' HO_14.out).1; omega) | simpa using h_) (seg := [v155]) (j := 0) hcl55 hcc55 (show 1 ≤ 1 from by decide) (x' := x17_1) (by have h_ := (Kd.R_mono (ok' := (fun k_ => ((fun _ => True)) k_ ∧ k_ ≠ go51)) (Kd.R_apart' (HO_17.out) (Kd.N_typed HO_14.out) (by decide)) (fun k_ hk => ⟨trivial, fun e_ => (hk.2) (by rw [e_]; rfl)⟩)); obtain ⟨A_, c_, e_⟩ := Kd.R_slice h_; subst e_; exact Kd.FK_slice_mk (Kd.R_reads' h_).2.1 (Kd.R_F h_)) (fun _ hk => hk)
                              have hx55_0 := hcc55 0 _ rfl
                              (try simp only [show ((Kd.slice 5 (Kd.int .u8))).sz = 1 from rfl, Nat.mul_one, Nat.add_zero] at hx55_0)
                              have hf55_0 := hfr55 0
                              (try simp only [show ((Kd.slice 5 (Kd.int .u8))).sz = 1 from rfl, Nat.mul_one, Nat.add_zero] at hf55_0)
                              clear hcl55 hcc55 hfr55 hM55
                              (try simp only [show ((Kd.slice 5 (Kd.int .u8))).sz = 1 from rfl, Nat.mul_one, Nat.add_zero] at HP55)
                              (try simp only [show ((Kd.slice 5 (Kd.int .u8))).sz = 1 from rfl, Nat.mul_one, Nat.add_zero] at HP55)
                              go_wp2_with (first | ((with_reducible refine gate_store (t := 22) (p := 93) rfl ?_); refine store_event (t := 22) (p := 93) (v := ?vo_w56) (w1 := (wr.setCell ⟨go51, (ji16 : Int).toNat, none⟩ (v155))) ?hg ?ho ?hn ?hr ?_; (case ho => rfl); (case hg => rfl); (case hn => rfl); (case hr => first | (go_simp; done) | (go_simp; rfl) | (obtain ⟨A_, c_, e_⟩ := Kd.R_slice HO_17.out; rw [e_]; go_simp; done)); intro w56 hw; have hg : wr.grownBy w56 (some go51) := (by rw [hw]; exact HP55.2); have hp_ : Kd.N (Kd.slice 5 (Kd.int .u8)) 22 w56 w.heap.size (fun _ => True) (.slice (some ⟨go51, 0, none⟩) y145.length co33) y161 := (by rw [hw, Ny161.out]; exact HP55.1); clear HP55; have n0_ := Aside0.mk (hp_); have n1_ := Aside0.mk ((by rw [hw]; exact below_set (HB.out) GB51.out : Below w.heap.size w w56)); clear HO_14; clear HB; clear HO_17; have HO_14 := n0_; have HB := n1_; clear n0_ n1_; clear hg hw hp_) | ((with_reducible refine gate_dst (N := 97) rfl ?_); refine Kd.R_lit (Kd.int .i64) _ 3 ?hg (N := 97) ?hd (xs := ([t148] : List Int)) (inner := [.int .i64 t148]) (ok := fun _ => True) (okp := fun _ => True) ?hr ?hp (fun _ hk => hk) trivial (Below.refl _ _) (Nat.le_refl _) (by simp) ?_; (case hd => rfl); (case hg => rfl); (case hr => first | (go_simp; done) | (go_simp; rfl)); (case hp => exact (Reps.one (show Kd.M (Kd.int .i64) _ _ _ t148 [.int .i64 t148] from rfl) (Reps.none _ _))); intro v163 w57 ho58 hb hg_ hnew_; clear hg_ hnew_; (first | rw [← Ny162.out] at ho58 | (simp only [Int.reduceToNat] at ho58; rw [← Ny162.out] at ho58)); have n0_ := Aside0.mk (Kd.N_elder' (by (with_reducible repeat (first | apply Kd.N_alloc | apply Kd.N_drewN | apply Kd.N_drew)); exact HO_14.out) (Kd.R_base ho58) hb); have n1_ := Aside0.mk (Kd.R_lower ho58 (below_size (by repeat (first | (with_reducible first | exact HB.out | apply below_alloc | apply pw_below_drewN | apply below_drew1) | exact HB.out)))); have n2_ := Aside0.mk (below_step (by repeat (first | (with_reducible first | exact HB.out | apply below_alloc | apply pw_below_drewN | apply below_drew1) | exact HB.out)) hb); clear HO_14; clear HB; have HO_14 := n0_; have HO164 := n1_; have HB := n2_; clear n0_ n1_ n2_; clear hb ho58; obtain ⟨Ao59, co59, eo59⟩ := Kd.R_slice HO164.out; subst eo59) | ((with_reducible refine gate_callee (f := 22) rfl ?_); refine goesL_ (some 98) rfl rfl Try.func22 (by kernel_rfl) rfl #[.slice (some ⟨go51, 0, none⟩) y161.length co33, .slice Ao59 y162.length co59] rfl (by (try simp only [List.map_toArray, List.map_cons, List.map_nil]); first | done | (rw [show y161.length = y145.length from (Kd.N_reads' HO_14.out).1.symm] <;> rfl) | rfl | (simp only [List.length_drop, List.length_take]; rfl)) ?_; (with_reducible refine (rs_Fix.calls _ _ y161 _ _ y162 t165 true _ ?side1 ?side2 ?side3 ?side4 A52.out).mono ?_); (case side1 => repeat (first | exact (Kd.N_reads' HO_14.out).2.2 | (with_reducible refine Kd.C_alloc ?_ _) | (with_reducible refine Kd.C_drewN ?_ _) | (with_reducible refine Kd.C_drew ?_))); (case side2 => rw [show y161.length = y145.length from (Kd.N_reads' HO_14.out).1.symm]; exact (Kd.N_reads' HO_14.out).2.1); (case side3 => repeat (first | exact (Kd.R_reads' HO164.out).2.2 | (with_reducible refine Kd.C_alloc ?_ _) | (with_reducible refine Kd.C_drewN ?_ _) | (with_reducible refine Kd.C_drew ?_))); (case side4 => exact (Kd.R_reads' HO164.out).2.1); rintro e w60 ⟨v166, rfl, ho0, hb⟩; refine ⟨_, rfl, ?_⟩; have n0_ := Aside0.mk (Kd.N_elder' (by (with_reducible repeat (first | apply Kd.N_alloc | apply Kd.N_drewN | apply Kd.N_drew)); exact HO_14.out) (Kd.N_base ho0) hb); have n1_ := Aside0.mk (Kd.R_below (by (with_reducible repeat (first | apply Kd.R_alloc | apply Kd.R_drewN | apply Kd.R_drew)); exact HO164.out) hb); have n2_ := Aside0.mk (Kd.N_lower (Kd.N_mono (ok' := fun k_ => some k_ ≠ (.slice (some ⟨go51, 0, none⟩) y145.length co33 : Value).ownBlock ∧ some k_ ≠ (.slice Ao59 y162.length co59 : Value).ownBlock) ho0 (fun k_ hk_ => ⟨(Kd.fresh' (Kd.N_lt (by (with_reducible repeat (first | apply Kd.N_alloc | apply Kd.N_drewN | apply Kd.N_drew)); exact HO_14.out)) k_ hk_), (Kd.fresh' (Kd.R_lt (by (with_reducible repeat (first | apply Kd.R_alloc | apply Kd.R_drewN | apply Kd.R_drew)); exact HO164.out)) k_ hk_)⟩)) (below_size (by repeat (first | (with_reducible first | exact HB.out | apply below_alloc | apply pw_below_drewN | apply below_drew1) | exact HB.out)))); have n3_ := Aside0.mk (below_step (by repeat (first | (with_reducible first | exact HB.out | apply below_alloc | apply pw_below_drewN | apply below_drew1) | exact HB.out)) hb); clear HO_14; clear HO164; clear HB; have HO_14 := n0_; have HO164 := n1_; have HO167 := n2_; have HB := n3_; clear n0_ n1_ n2_ n3_; (try clear hb); (try clear hb2); (try clear hk); (try clear hi); (try clear ho0); obtain ⟨Ao61, co61, eo61⟩ := Kd.N_slice HO167.out; subst eo61) | (go_at_call 19; (with_reducible refine (rs_Check.calls _ _ t165 t169 _ ?side1 ?side2 A54.out).mono ?_); (case side1 => repeat (first | exact (Kd.N_reads' HO167.out).2.2 | (with_reducible refine Kd.C_alloc ?_ _) | (with_reducible refine Kd.C_drewN ?_ _) | (with_reducible refine Kd.C_drew ?_))); (case side2 => exact (Kd.N_reads' HO167.out).2.1); rintro e w62 ⟨rfl, hb⟩; have n0_ := Aside0.mk (Kd.N_below (by (with_reducible repeat (first | apply Kd.N_alloc | apply Kd.N_drewN | apply Kd.N_drew)); exact HO_14.out) hb); have n1_ := Aside0.mk (Kd.R_below (by (with_reducible repeat (first | apply Kd.R_alloc | apply Kd.R_drewN | apply Kd.R_drew)); exact HO164.out) hb); have n2_ := Aside0.mk (Kd.N_below (by (with_reducible repeat (first | apply Kd.N_alloc | apply Kd.N_drewN | apply Kd.N_drew)); exact HO167.out) hb); have n3_ := Aside0.mk (below_step (by repeat (first | (with_reducible first | exact HB.out | apply below_alloc | apply pw_below_drewN | apply below_drew1) | exact HB.out)) hb); clear HO_14; clear HO164; clear HO167; clear HB; have HO_14 := n0_; have HO164 := n1_; have HO167 := n2_; have HB := n3_; clear n0_ n1_ n2_ n3_; (try clear hb); (try clear hb2); (try clear hk); (try clear hi)))
                              go_ret
                              exact ⟨by first | rfl | (simp [errW_none, errW_some] <;> rfl) | (simp only [← hji16]; first | rfl | (simp [errW_none, errW_some] <;> rfl)) | (simp [*, errW_none, errW_some] <;> rfl), by repeat (first | (with_reducible first | exact HB.out | apply below_alloc | apply pw_below_drewN | apply below_drew1) | exact HB.out)⟩
                            · replace c53 := Bool.eq_false_iff.mpr c53
                              subst c53
                              have H1 : (some false) = some r := by rw [if_neg (show ¬ (false = true) by decide)] at H; exact H
                              clear H
                              have H := H1
                              clear H1
                              obtain rfl := Option.some.inj H
                              have p51 : 0 ≤ (ji16 : Int) := of_decide_eq_true (by first | (with_reducible assumption) | assumption)
                              have q51 : (ji16 : Int) < ((y145.length : Int) : Int) := of_decide_eq_true (by first | (with_reducible assumption) | assumption)
                              obtain ⟨go51, co51, eo51, gb51, gl51, cl51, HG51⟩ := Kd.N_form HO_14.out (by omega)
                              (first | cases eo51 | (injection eo51 with ea_ en_ ec_; (first | subst ea_ | (injection ea_ with ea_; subst ea_)); subst ec_; clear en_))
                              have GB51 := Aside0.mk gb51
                              have GG51 := Aside0.mk HG51
                              clear gb51 gl51 HG51
                              obtain ⟨ce51, hcl51, hM51, hcc51, hfr51⟩ := Kd.N_elem HO_14.out [] (ji16 : Int) p51 q51
                              obtain ⟨ua51_0, uc51_0, rfl, ul51_0, ge51_0⟩ := Kd.FK_slice_open hM51
                              have hx51_0 := hcc51 0 _ rfl
                              have hf51_0 := hfr51 0
                              (try simp only [show ((Kd.slice 5 (Kd.int .u8))).sz = 1 from rfl, Nat.mul_one, Nat.add_zero] at hx51_0)
                              (try simp only [show ((Kd.slice 5 (Kd.int .u8))).sz = 1 from rfl, Nat.mul_one, Nat.add_zero] at hf51_0)
                              clear hcl51 hcc51 hfr51 hM51
                              replace p51 := eq_true p51
                              replace q51 := eq_true q51
                              have HX63 := Aside0.mk (show Kd.N (Kd.slice 5 (Kd.int .u8)) 22 wr w.heap.size (fun _ => True) (.slice (some ⟨go51, 0, none⟩) y145.length co33) y145 from (by (with_reducible repeat (first | apply Kd.N_alloc | apply Kd.N_drewN | apply Kd.N_drew)); exact Kd.N_mono HO_14.out (fun _ hk => trivial)))
                              obtain ⟨ce63, hcl63, hM63, hcc63, hfr63⟩ := Kd.N_elem HX63.out [] (ji16 : Int) (of_decide_eq_true (by first | (with_reducible assumption) | assumption)) (by have h_ : (ji16 : Int) < ((y145.length : Int) : Int) := of_decide_eq_true (by first | (with_reducible assumption) | assumption); first | exact h_ | (have e_ := (Kd.N_reads' HO_14.out).1; omega) | simpa using h_)
                              obtain ⟨ua63_0, uc63_0, rfl, ul63_0, ge63_0⟩ := Kd.FK_slice_open hM63
                              have HP63 := Kd.N_seg HX63.out (ji16 : Int) (of_decide_eq_true (by first | (with_reducible assumption) | assumption)) (by have h_ : (ji16 : Int) < ((y145.length : Int) : Int) := of_decide_eq_true (by first | (with_reducible assumption) | assumption); first | exact h_ | (have e_ := (Kd.N_reads' HO_14.out).1; omega) | simpa using h_) (seg := [v155]) (j := 0) hcl63 hcc63 (show 1 ≤ 1 from by decide) (x' := x17_1) (by have h_ := (Kd.R_mono (ok' := (fun k_ => ((fun _ => True)) k_ ∧ k_ ≠ go51)) (Kd.R_apart' (HO_17.out) (Kd.N_typed HO_14.out) (by decide)) (fun k_ hk => ⟨trivial, fun e_ => (hk.2) (by rw [e_]; rfl)⟩)); obtain ⟨A_, c_, e_⟩ := Kd.R_slice h_; subst e_; exact Kd.FK_slice_mk (Kd.R_reads' h_).2.1 (Kd.R_F h_)) (fun _ hk => hk)
                              have hx63_0 := hcc63 0 _ rfl
                              (try simp only [show ((Kd.slice 5 (Kd.int .u8))).sz = 1 from rfl, Nat.mul_one, Nat.add_zero] at hx63_0)
                              have hf63_0 := hfr63 0
                              (try simp only [show ((Kd.slice 5 (Kd.int .u8))).sz = 1 from rfl, Nat.mul_one, Nat.add_zero] at hf63_0)
                              clear hcl63 hcc63 hfr63 hM63
                              (try simp only [show ((Kd.slice 5 (Kd.int .u8))).sz = 1 from rfl, Nat.mul_one, Nat.add_zero] at HP63)
                              (try simp only [show ((Kd.slice 5 (Kd.int .u8))).sz = 1 from rfl, Nat.mul_one, Nat.add_zero] at HP63)
                              go_wp2_with (first | ((with_reducible refine gate_store (t := 22) (p := 93) rfl ?_); refine store_event (t := 22) (p := 93) (v := ?vo_w64) (w1 := (wr.setCell ⟨go51, (ji16 : Int).toNat, none⟩ (v155))) ?hg ?ho ?hn ?hr ?_; (case ho => rfl); (case hg => rfl); (case hn => rfl); (case hr => first | (go_simp; done) | (go_simp; rfl) | (obtain ⟨A_, c_, e_⟩ := Kd.R_slice HO_17.out; rw [e_]; go_simp; done)); intro w64 hw; have hg : wr.grownBy w64 (some go51) := (by rw [hw]; exact HP63.2); have hp_ : Kd.N (Kd.slice 5 (Kd.int .u8)) 22 w64 w.heap.size (fun _ => True) (.slice (some ⟨go51, 0, none⟩) y145.length co33) y161 := (by rw [hw, Ny161.out]; exact HP63.1); clear HP63; have n0_ := Aside0.mk (hp_); have n1_ := Aside0.mk ((by rw [hw]; exact below_set (HB.out) GB51.out : Below w.heap.size w w64)); clear HO_14; clear HB; clear HO_17; have HO_14 := n0_; have HB := n1_; clear n0_ n1_; clear hg hw hp_) | ((with_reducible refine gate_dst (N := 97) rfl ?_); refine Kd.R_lit (Kd.int .i64) _ 3 ?hg (N := 97) ?hd (xs := ([t148] : List Int)) (inner := [.int .i64 t148]) (ok := fun _ => True) (okp := fun _ => True) ?hr ?hp (fun _ hk => hk) trivial (Below.refl _ _) (Nat.le_refl _) (by simp) ?_; (case hd => rfl); (case hg => rfl); (case hr => first | (go_simp; done) | (go_simp; rfl)); (case hp => exact (Reps.one (show Kd.M (Kd.int .i64) _ _ _ t148 [.int .i64 t148] from rfl) (Reps.none _ _))); intro v163 w65 ho66 hb hg_ hnew_; clear hg_ hnew_; (first | rw [← Ny162.out] at ho66 | (simp only [Int.reduceToNat] at ho66; rw [← Ny162.out] at ho66)); have n0_ := Aside0.mk (Kd.N_elder' (by (with_reducible repeat (first | apply Kd.N_alloc | apply Kd.N_drewN | apply Kd.N_drew)); exact HO_14.out) (Kd.R_base ho66) hb); have n1_ := Aside0.mk (Kd.R_lower ho66 (below_size (by repeat (first | (with_reducible first | exact HB.out | apply below_alloc | apply pw_below_drewN | apply below_drew1) | exact HB.out)))); have n2_ := Aside0.mk (below_step (by repeat (first | (with_reducible first | exact HB.out | apply below_alloc | apply pw_below_drewN | apply below_drew1) | exact HB.out)) hb); clear HO_14; clear HB; have HO_14 := n0_; have HO164 := n1_; have HB := n2_; clear n0_ n1_ n2_; clear hb ho66; obtain ⟨Ao67, co67, eo67⟩ := Kd.R_slice HO164.out; subst eo67) | ((with_reducible refine gate_callee (f := 22) rfl ?_); refine goesL_ (some 98) rfl rfl Try.func22 (by kernel_rfl) rfl #[.slice (some ⟨go51, 0, none⟩) y161.length co33, .slice Ao67 y162.length co67] rfl (by (try simp only [List.map_toArray, List.map_cons, List.map_nil]); first | done | (rw [show y161.length = y145.length from (Kd.N_reads' HO_14.out).1.symm] <;> rfl) | rfl | (simp only [List.length_drop, List.length_take]; rfl)) ?_; (with_reducible refine (rs_Fix.calls _ _ y161 _ _ y162 t165 false _ ?side1 ?side2 ?side3 ?side4 A52.out).mono ?_); (case side1 => repeat (first | exact (Kd.N_reads' HO_14.out).2.2 | (with_reducible refine Kd.C_alloc ?_ _) | (with_reducible refine Kd.C_drewN ?_ _) | (with_reducible refine Kd.C_drew ?_))); (case side2 => rw [show y161.length = y145.length from (Kd.N_reads' HO_14.out).1.symm]; exact (Kd.N_reads' HO_14.out).2.1); (case side3 => repeat (first | exact (Kd.R_reads' HO164.out).2.2 | (with_reducible refine Kd.C_alloc ?_ _) | (with_reducible refine Kd.C_drewN ?_ _) | (with_reducible refine Kd.C_drew ?_))); (case side4 => exact (Kd.R_reads' HO164.out).2.1); rintro e w68 ⟨v166, rfl, ho0, hb⟩; refine ⟨_, rfl, ?_⟩; have n0_ := Aside0.mk (Kd.N_elder' (by (with_reducible repeat (first | apply Kd.N_alloc | apply Kd.N_drewN | apply Kd.N_drew)); exact HO_14.out) (Kd.N_base ho0) hb); have n1_ := Aside0.mk (Kd.R_below (by (with_reducible repeat (first | apply Kd.R_alloc | apply Kd.R_drewN | apply Kd.R_drew)); exact HO164.out) hb); have n2_ := Aside0.mk (Kd.N_lower (Kd.N_mono (ok' := fun k_ => some k_ ≠ (.slice (some ⟨go51, 0, none⟩) y145.length co33 : Value).ownBlock ∧ some k_ ≠ (.slice Ao67 y162.length co67 : Value).ownBlock) ho0 (fun k_ hk_ => ⟨(Kd.fresh' (Kd.N_lt (by (with_reducible repeat (first | apply Kd.N_alloc | apply Kd.N_drewN | apply Kd.N_drew)); exact HO_14.out)) k_ hk_), (Kd.fresh' (Kd.R_lt (by (with_reducible repeat (first | apply Kd.R_alloc | apply Kd.R_drewN | apply Kd.R_drew)); exact HO164.out)) k_ hk_)⟩)) (below_size (by repeat (first | (with_reducible first | exact HB.out | apply below_alloc | apply pw_below_drewN | apply below_drew1) | exact HB.out)))); have n3_ := Aside0.mk (below_step (by repeat (first | (with_reducible first | exact HB.out | apply below_alloc | apply pw_below_drewN | apply below_drew1) | exact HB.out)) hb); clear HO_14; clear HO164; clear HB; have HO_14 := n0_; have HO164 := n1_; have HO167 := n2_; have HB := n3_; clear n0_ n1_ n2_ n3_; (try clear hb); (try clear hb2); (try clear hk); (try clear hi); (try clear ho0)))
                              go_ret
                              exact ⟨by first | rfl | (simp [errW_none, errW_some] <;> rfl) | (simp only [← hji16]; first | rfl | (simp [errW_none, errW_some] <;> rfl)) | (simp [*, errW_none, errW_some] <;> rfl), by repeat (first | (with_reducible first | exact HB.out | apply below_alloc | apply pw_below_drewN | apply below_drew1) | exact HB.out)⟩
                          · rw [if_neg c50] at H
                            exact absurd H (by simp)
                        · rw [if_neg c49] at H
                          exact absurd H (by simp)
                    · rw [if_neg c37] at H
                      have c37b0 : decide (x19_1 < (l4.length : Int)) = false := decide_eq_false c37
                      clear c37
                      by_cases c69 : 0 ≤ ji16
                      · rw [if_pos c69] at H
                        have c69b0 : decide (0 ≤ ji16) = true := decide_eq_true c69
                        clear c69
                        by_cases c70 : ji16 < (y145.length : Int)
                        · rw [if_pos c70] at H
                          have c70b0 : decide (ji16 < (y145.length : Int)) = true := decide_eq_true c70
                          clear c70
                          obtain ⟨y170, hy170⟩ : ∃ y_ : List (List Int), y_ = (y145.set (ji16 : Int).toNat x17_1) := ⟨_, rfl⟩
                          replace H : ((rs_Fix.f y170 (([t148] : List Int))).bind fun bt174 => (if bt174.2 = true then ((rs_Check.f bt174.1).bind fun t178 => (some (t178 == (!x18_1)))) else (some false))) = some r := by first | (rw [hy170]; with_reducible exact H) | (have H2_ := (Option.bind_some _ _).symm.trans H; rw [hy170]; with_reducible exact H2_) | (have H2_ := (Option.bind_some _ _).symm.trans H; with_reducible exact H2_) | with_reducible exact H | (rw [hy170]; exact H) | exact H
                          have Ny170 := Aside0.mk hy170
                          clear hy170
                          obtain ⟨y171, hy171⟩ : ∃ y_ : List Int, y_ = (([t148] : List Int)) := ⟨_, rfl⟩
                          replace H : ((rs_Fix.f y170 y171).bind fun bt174 => (if bt174.2 = true then ((rs_Check.f bt174.1).bind fun t178 => (some (t178 == (!x18_1)))) else (some false))) = some r := by first | (rw [hy171]; with_reducible exact H) | (have H2_ := (Option.bind_some _ _).symm.trans H; rw [hy171]; with_reducible exact H2_) | (have H2_ := (Option.bind_some _ _).symm.trans H; with_reducible exact H2_) | with_reducible exact H | (rw [hy171]; exact H) | exact H
                          have Ny171 := Aside0.mk hy171
                          clear hy171
                          replace H := Option.bind_eq_some_iff.mp H
                          obtain ⟨⟨t174, t177⟩, A720, H⟩ := H
                          replace H : (if t177 = true then ((rs_Check.f t174).bind fun t178 => (some (t178 == (!x18_1)))) else (some false)) = some r := H
                          have A72 := Aside0.mk A720
                          clear A720
                          by_cases c73 : t177 = true
                          · subst c73
                            have H1 : ((rs_Check.f t174).bind fun t178 => (some (t178 == (!x18_1)))) = some r := by rw [if_pos rfl] at H; exact H
                            clear H
                            have H := H1
                            clear H1
                            replace H := Option.bind_eq_some_iff.mp H
                            obtain ⟨t178, A740, H⟩ := H
                            replace H : (some (t178 == (!x18_1))) = some r := H
                            have A74 := Aside0.mk A740
                            clear A740
                            obtain rfl := Option.some.inj H
                            have p71 : 0 ≤ (ji16 : Int) := of_decide_eq_true (by first | (with_reducible assumption) | assumption)
                            have q71 : (ji16 : Int) < ((y145.length : Int) : Int) := of_decide_eq_true (by first | (with_reducible assumption) | assumption)
                            obtain ⟨go71, co71, eo71, gb71, gl71, cl71, HG71⟩ := Kd.N_form HO_14.out (by omega)
                            (first | cases eo71 | (injection eo71 with ea_ en_ ec_; (first | subst ea_ | (injection ea_ with ea_; subst ea_)); subst ec_; clear en_))
                            have GB71 := Aside0.mk gb71
                            have GG71 := Aside0.mk HG71
                            clear gb71 gl71 HG71
                            obtain ⟨ce71, hcl71, hM71, hcc71, hfr71⟩ := Kd.N_elem HO_14.out [] (ji16 : Int) p71 q71
                            obtain ⟨ua71_0, uc71_0, rfl, ul71_0, ge71_0⟩ := Kd.FK_slice_open hM71
                            have hx71_0 := hcc71 0 _ rfl
                            have hf71_0 := hfr71 0
                            (try simp only [show ((Kd.slice 5 (Kd.int .u8))).sz = 1 from rfl, Nat.mul_one, Nat.add_zero] at hx71_0)
                            (try simp only [show ((Kd.slice 5 (Kd.int .u8))).sz = 1 from rfl, Nat.mul_one, Nat.add_zero] at hf71_0)
                            clear hcl71 hcc71 hfr71 hM71
                            replace p71 := eq_true p71
                            replace q71 := eq_true q71
                            have HX75 := Aside0.mk (show Kd.N (Kd.slice 5 (Kd.int .u8)) 22 wr w.heap.size (fun _ => True) (.slice (some ⟨go71, 0, none⟩) y145.length co33) y145 from (by (with_reducible repeat (first | apply Kd.N_alloc | apply Kd.N_drewN | apply Kd.N_drew)); exact Kd.N_mono HO_14.out (fun _ hk => trivial)))
                            obtain ⟨ce75, hcl75, hM75, hcc75, hfr75⟩ := Kd.N_elem HX75.out [] (ji16 : Int) (of_decide_eq_true (by first | (with_reducible assumption) | assumption)) (by have h_ : (ji16 : Int) < ((y145.length : Int) : Int) := of_decide_eq_true (by first | (with_reducible assumption) | assumption); first | exact h_ | (have e_ := (Kd.N_reads' HO_14.out).1; omega) | simpa using h_)
                            obtain ⟨ua75_0, uc75_0, rfl, ul75_0, ge75_0⟩ := Kd.FK_slice_open hM75
                            have HP75 := Kd.N_seg HX75.out (ji16 : Int) (of_decide_eq_true (by first | (with_reducible assumption) | assumption)) (by have h_ : (ji16 : Int) < ((y145.length : Int) : Int) := of_decide_eq_true (by first | (with_reducible assumption) | assumption); first | exact h_ | (have e_ := (Kd.N_reads' HO_14.out).1; omega) | simpa using h_) (seg := [v155]) (j := 0) hcl75 hcc75 (show 1 ≤ 1 from by decide) (x' := x17_1) (by have h_ := (Kd.R_mono (ok' := (fun k_ => ((fun _ => True)) k_ ∧ k_ ≠ go71)) (Kd.R_apart' (HO_17.out) (Kd.N_typed HO_14.out) (by decide)) (fun k_ hk => ⟨trivial, fun e_ => (hk.2) (by rw [e_]; rfl)⟩)); obtain ⟨A_, c_, e_⟩ := Kd.R_slice h_; subst e_; exact Kd.FK_slice_mk (Kd.R_reads' h_).2.1 (Kd.R_F h_)) (fun _ hk => hk)
                            have hx75_0 := hcc75 0 _ rfl
                            (try simp only [show ((Kd.slice 5 (Kd.int .u8))).sz = 1 from rfl, Nat.mul_one, Nat.add_zero] at hx75_0)
                            have hf75_0 := hfr75 0
                            (try simp only [show ((Kd.slice 5 (Kd.int .u8))).sz = 1 from rfl, Nat.mul_one, Nat.add_zero] at hf75_0)
                            clear hcl75 hcc75 hfr75 hM75
                            (try simp only [show ((Kd.slice 5 (Kd.int .u8))).sz = 1 from rfl, Nat.mul_one, Nat.add_zero] at HP75)
                            (try simp only [show ((Kd.slice 5 (Kd.int .u8))).sz = 1 from rfl, Nat.mul_one, Nat.add_zero] at HP75)
                            go_wp2_with (first | ((with_reducible refine gate_store (t := 22) (p := 93) rfl ?_); refine store_event (t := 22) (p := 93) (v := ?vo_w76) (w1 := (wr.setCell ⟨go71, (ji16 : Int).toNat, none⟩ (v155))) ?hg ?ho ?hn ?hr ?_; (case ho => rfl); (case hg => rfl); (case hn => rfl); (case hr => first | (go_simp; done) | (go_simp; rfl) | (obtain ⟨A_, c_, e_⟩ := Kd.R_slice HO_17.out; rw [e_]; go_simp; done)); intro w76 hw; have hg : wr.grownBy w76 (some go71) := (by rw [hw]; exact HP75.2); have hp_ : Kd.N (Kd.slice 5 (Kd.int .u8)) 22 w76 w.heap.size (fun _ => True) (.slice (some ⟨go71, 0, none⟩) y145.length co33) y170 := (by rw [hw, Ny170.out]; exact HP75.1); clear HP75; have n0_ := Aside0.mk (hp_); have n1_ := Aside0.mk ((by rw [hw]; exact below_set (HB.out) GB71.out : Below w.heap.size w w76)); clear HO_14; clear HB; clear HO_17; have HO_14 := n0_; have HB := n1_; clear n0_ n1_; clear hg hw hp_) | ((with_reducible refine gate_dst (N := 97) rfl ?_); refine Kd.R_lit (Kd.int .i64) _ 3 ?hg (N := 97) ?hd (xs := ([t148] : List Int)) (inner := [.int .i64 t148]) (ok := fun _ => True) (okp := fun _ => True) ?hr ?hp (fun _ hk => hk) trivial (Below.refl _ _) (Nat.le_refl _) (by simp) ?_; (case hd => rfl); (case hg => rfl); (case hr => first | (go_simp; done) | (go_simp; rfl)); (case hp => exact (Reps.one (show Kd.M (Kd.int .i64) _ _ _ t148 [.int .i64 t148] from rfl) (Reps.none _ _))); intro v172 w77 ho78 hb hg_ hnew_; clear hg_ hnew_; (first | rw [← Ny171.out] at ho78 | (simp only [Int.reduceToNat] at ho78; rw [← Ny171.out] at ho78)); have n0_ := Aside0.mk (Kd.N_elder' (by (with_reducible repeat (first | apply Kd.N_alloc | apply Kd.N_drewN | apply Kd.N_drew)); exact HO_14.out) (Kd.R_base ho78) hb); have n1_ := Aside0.mk (Kd.R_lower ho78 (below_size (by repeat (first | (with_reducible first | exact HB.out | apply below_alloc | apply pw_below_drewN | apply below_drew1) | exact HB.out)))); have n2_ := Aside0.mk (below_step (by repeat (first | (with_reducible first | exact HB.out | apply below_alloc | apply pw_below_drewN | apply below_drew1) | exact HB.out)) hb); clear HO_14; clear HB; have HO_14 := n0_; have HO173 := n1_; have HB := n2_; clear n0_ n1_ n2_; clear hb ho78; obtain ⟨Ao79, co79, eo79⟩ := Kd.R_slice HO173.out; subst eo79) | ((with_reducible refine gate_callee (f := 22) rfl ?_); refine goesL_ (some 98) rfl rfl Try.func22 (by kernel_rfl) rfl #[.slice (some ⟨go71, 0, none⟩) y170.length co33, .slice Ao79 y171.length co79] rfl (by (try simp only [List.map_toArray, List.map_cons, List.map_nil]); first | done | (rw [show y170.length = y145.length from (Kd.N_reads' HO_14.out).1.symm] <;> rfl) | rfl | (simp only [List.length_drop, List.length_take]; rfl)) ?_; (with_reducible refine (rs_Fix.calls _ _ y170 _ _ y171 t174 true _ ?side1 ?side2 ?side3 ?side4 A72.out).mono ?_); (case side1 => repeat (first | exact (Kd.N_reads' HO_14.out).2.2 | (with_reducible refine Kd.C_alloc ?_ _) | (with_reducible refine Kd.C_drewN ?_ _) | (with_reducible refine Kd.C_drew ?_))); (case side2 => rw [show y170.length = y145.length from (Kd.N_reads' HO_14.out).1.symm]; exact (Kd.N_reads' HO_14.out).2.1); (case side3 => repeat (first | exact (Kd.R_reads' HO173.out).2.2 | (with_reducible refine Kd.C_alloc ?_ _) | (with_reducible refine Kd.C_drewN ?_ _) | (with_reducible refine Kd.C_drew ?_))); (case side4 => exact (Kd.R_reads' HO173.out).2.1); rintro e w80 ⟨v175, rfl, ho0, hb⟩; refine ⟨_, rfl, ?_⟩; have n0_ := Aside0.mk (Kd.N_elder' (by (with_reducible repeat (first | apply Kd.N_alloc | apply Kd.N_drewN | apply Kd.N_drew)); exact HO_14.out) (Kd.N_base ho0) hb); have n1_ := Aside0.mk (Kd.R_below (by (with_reducible repeat (first | apply Kd.R_alloc | apply Kd.R_drewN | apply Kd.R_drew)); exact HO173.out) hb); have n2_ := Aside0.mk (Kd.N_lower (Kd.N_mono (ok' := fun k_ => some k_ ≠ (.slice (some ⟨go71, 0, none⟩) y145.length co33 : Value).ownBlock ∧ some k_ ≠ (.slice Ao79 y171.length co79 : Value).ownBlock) ho0 (fun k_ hk_ => ⟨(Kd.fresh' (Kd.N_lt (by (with_reducible repeat (first | apply Kd.N_alloc | apply Kd.N_drewN | apply Kd.N_drew)); exact HO_14.out)) k_ hk_), (Kd.fresh' (Kd.R_lt (by (with_reducible repeat (first | apply Kd.R_alloc | apply Kd.R_drewN | apply Kd.R_drew)); exact HO173.out)) k_ hk_)⟩)) (below_size (by repeat (first | (with_reducible first | exact HB.out | apply below_alloc | apply pw_below_drewN | apply below_drew1) | exact HB.out)))); have n3_ := Aside0.mk (below_step (by repeat (first | (with_reducible first | exact HB.out | apply below_alloc | apply pw_below_drewN | apply below_drew1) | exact HB.out)) hb); clear HO_14; clear HO173; clear HB; have HO_14 := n0_; have HO173 := n1_; have HO176 := n2_; have HB := n3_; clear n0_ n1_ n2_ n3_; (try clear hb); (try clear hb2); (try clear hk); (try clear hi); (try clear ho0); obtain ⟨Ao81, co81, eo81⟩ := Kd.N_slice HO176.out; subst eo81) | (go_at_call 19; (with_reducible refine (rs_Check.calls _ _ t174 t178 _ ?side1 ?side2 A74.out).mono ?_); (case side1 => repeat (first | exact (Kd.N_reads' HO176.out).2.2 | (with_reducible refine Kd.C_alloc ?_ _) | (with_reducible refine Kd.C_drewN ?_ _) | (with_reducible refine Kd.C_drew ?_))); (case side2 => exact (Kd.N_reads' HO176.out).2.1); rintro e w82 ⟨rfl, hb⟩; have n0_ := Aside0.mk (Kd.N_below (by (with_reducible repeat (first | apply Kd.N_alloc | apply Kd.N_drewN | apply Kd.N_drew)); exact HO_14.out) hb); have n1_ := Aside0.mk (Kd.R_below (by (with_reducible repeat (first | apply Kd.R_alloc | apply Kd.R_drewN | apply Kd.R_drew)); exact HO173.out) hb); have n2_ := Aside0.mk (Kd.N_below (by (with_reducible repeat (first | apply Kd.N_alloc | apply Kd.N_drewN | apply Kd.N_drew)); exact HO176.out) hb); have n3_ := Aside0.mk (below_step (by repeat (first | (with_reducible first | exact HB.out | apply below_alloc | apply pw_below_drewN | apply below_drew1) | exact HB.out)) hb); clear HO_14; clear HO173; clear HO176; clear HB; have HO_14 := n0_; have HO173 := n1_; have HO176 := n2_; have HB := n3_; clear n0_ n1_ n2_ n3_; (try clear hb); (try clear hb2); (try clear hk); (try clear hi)))
                            go_ret
                            exact ⟨by first | rfl | (simp [errW_none, errW_some] <;> rfl) | (simp only [← hji16]; first | rfl | (simp [errW_none, errW_some] <;> rfl)) | (simp [*, errW_none, errW_some] <;> rfl), by repeat (first | (with_reducible first | exact HB.out | apply below_alloc | apply pw_below_drewN | apply below_drew1) | exact HB.out)⟩
                          · replace c73 := Bool.eq_false_iff.mpr c73
                            subst c73
                            have H1 : (some false) = some r := by rw [if_neg (show ¬ (false = true) by decide)] at H; exact H
                            clear H
                            have H := H1
                            clear H1
                            obtain rfl := Option.some.inj H
                            have p71 : 0 ≤ (ji16 : Int) := of_decide_eq_true (by first | (with_reducible assumption) | assumption)
                            have q71 : (ji16 : Int) < ((y145.length : Int) : Int) := of_decide_eq_true (by first | (with_reducible assumption) | assumption)
                            obtain ⟨go71, co71, eo71, gb71, gl71, cl71, HG71⟩ := Kd.N_form HO_14.out (by omega)
                            (first | cases eo71 | (injection eo71 with ea_ en_ ec_; (first | subst ea_ | (injection ea_ with ea_; subst ea_)); subst ec_; clear en_))
                            have GB71 := Aside0.mk gb71
                            have GG71 := Aside0.mk HG71
                            clear gb71 gl71 HG71
                            obtain ⟨ce71, hcl71, hM71, hcc71, hfr71⟩ := Kd.N_elem HO_14.out [] (ji16 : Int) p71 q71
                            obtain ⟨ua71_0, uc71_0, rfl, ul71_0, ge71_0⟩ := Kd.FK_slice_open hM71
                            have hx71_0 := hcc71 0 _ rfl
                            have hf71_0 := hfr71 0
                            (try simp only [show ((Kd.slice 5 (Kd.int .u8))).sz = 1 from rfl, Nat.mul_one, Nat.add_zero] at hx71_0)
                            (try simp only [show ((Kd.slice 5 (Kd.int .u8))).sz = 1 from rfl, Nat.mul_one, Nat.add_zero] at hf71_0)
                            clear hcl71 hcc71 hfr71 hM71
                            replace p71 := eq_true p71
                            replace q71 := eq_true q71
                            have HX83 := Aside0.mk (show Kd.N (Kd.slice 5 (Kd.int .u8)) 22 wr w.heap.size (fun _ => True) (.slice (some ⟨go71, 0, none⟩) y145.length co33) y145 from (by (with_reducible repeat (first | apply Kd.N_alloc | apply Kd.N_drewN | apply Kd.N_drew)); exact Kd.N_mono HO_14.out (fun _ hk => trivial)))
                            obtain ⟨ce83, hcl83, hM83, hcc83, hfr83⟩ := Kd.N_elem HX83.out [] (ji16 : Int) (of_decide_eq_true (by first | (with_reducible assumption) | assumption)) (by have h_ : (ji16 : Int) < ((y145.length : Int) : Int) := of_decide_eq_true (by first | (with_reducible assumption) | assumption); first | exact h_ | (have e_ := (Kd.N_reads' HO_14.out).1; omega) | simpa using h_)
                            obtain ⟨ua83_0, uc83_0, rfl, ul83_0, ge83_0⟩ := Kd.FK_slice_open hM83
                            have HP83 := Kd.N_seg HX83.out (ji16 : Int) (of_decide_eq_true (by first | (with_reducible assumption) | assumption)) (by have h_ : (ji16 : Int) < ((y145.length : Int) : Int) := of_decide_eq_true (by first | (with_reducible assumption) | assumption); first | exact h_ | (have e_ := (Kd.N_reads' HO_14.out).1; omega) | simpa using h_) (seg := [v155]) (j := 0) hcl83 hcc83 (show 1 ≤ 1 from by decide) (x' := x17_1) (by have h_ := (Kd.R_mono (ok' := (fun k_ => ((fun _ => True)) k_ ∧ k_ ≠ go71)) (Kd.R_apart' (HO_17.out) (Kd.N_typed HO_14.out) (by decide)) (fun k_ hk => ⟨trivial, fun e_ => (hk.2) (by rw [e_]; rfl)⟩)); obtain ⟨A_, c_, e_⟩ := Kd.R_slice h_; subst e_; exact Kd.FK_slice_mk (Kd.R_reads' h_).2.1 (Kd.R_F h_)) (fun _ hk => hk)
                            have hx83_0 := hcc83 0 _ rfl
                            (try simp only [show ((Kd.slice 5 (Kd.int .u8))).sz = 1 from rfl, Nat.mul_one, Nat.add_zero] at hx83_0)
                            have hf83_0 := hfr83 0
                            (try simp only [show ((Kd.slice 5 (Kd.int .u8))).sz = 1 from rfl, Nat.mul_one, Nat.add_zero] at hf83_0)
                            clear hcl83 hcc83 hfr83 hM83
                            (try simp only [show ((Kd.slice 5 (Kd.int .u8))).sz = 1 from rfl, Nat.mul_one, Nat.add_zero] at HP83)
                            (try simp only [show ((Kd.slice 5 (Kd.int .u8))).sz = 1 from rfl, Nat.mul_one, Nat.add_zero] at HP83)
                            go_wp2_with (first | ((with_reducible refine gate_store (t := 22) (p := 93) rfl ?_); refine store_event (t := 22) (p := 93) (v := ?vo_w84) (w1 := (wr.setCell ⟨go71, (ji16 : Int).toNat, none⟩ (v155))) ?hg ?ho ?hn ?hr ?_; (case ho => rfl); (case hg => rfl); (case hn => rfl); (case hr => first | (go_simp; done) | (go_simp; rfl) | (obtain ⟨A_, c_, e_⟩ := Kd.R_slice HO_17.out; rw [e_]; go_simp; done)); intro w84 hw; have hg : wr.grownBy w84 (some go71) := (by rw [hw]; exact HP83.2); have hp_ : Kd.N (Kd.slice 5 (Kd.int .u8)) 22 w84 w.heap.size (fun _ => True) (.slice (some ⟨go71, 0, none⟩) y145.length co33) y170 := (by rw [hw, Ny170.out]; exact HP83.1); clear HP83; have n0_ := Aside0.mk (hp_); have n1_ := Aside0.mk ((by rw [hw]; exact below_set (HB.out) GB71.out : Below w.heap.size w w84)); clear HO_14; clear HB; clear HO_17; have HO_14 := n0_; have HB := n1_; clear n0_ n1_; clear hg hw hp_) | ((with_reducible refine gate_dst (N := 97) rfl ?_); refine Kd.R_lit (Kd.int .i64) _ 3 ?hg (N := 97) ?hd (xs := ([t148] : List Int)) (inner := [.int .i64 t148]) (ok := fun _ => True) (okp := fun _ => True) ?hr ?hp (fun _ hk => hk) trivial (Below.refl _ _) (Nat.le_refl _) (by simp) ?_; (case hd => rfl); (case hg => rfl); (case hr => first | (go_simp; done) | (go_simp; rfl)); (case hp => exact (Reps.one (show Kd.M (Kd.int .i64) _ _ _ t148 [.int .i64 t148] from rfl) (Reps.none _ _))); intro v172 w85 ho86 hb hg_ hnew_; clear hg_ hnew_; (first | rw [← Ny171.out] at ho86 | (simp only [Int.reduceToNat] at ho86; rw [← Ny171.out] at ho86)); have n0_ := Aside0.mk (Kd.N_elder' (by (with_reducible repeat (first | apply Kd.N_alloc | apply Kd.N_drewN | apply Kd.N_drew)); exact HO_14.out) (Kd.R_base ho86) hb); have n1_ := Aside0.mk (Kd.R_lower ho86 (below_size (by repeat (first | (with_reducible first | exact HB.out | apply below_alloc | apply pw_below_drewN | apply below_drew1) | exact HB.out)))); have n2_ := Aside0.mk (below_step (by repeat (first | (with_reducible first | exact HB.out | apply below_alloc | apply pw_below_drewN | apply below_drew1) | exact HB.out)) hb); clear HO_14; clear HB; have HO_14 := n0_; have HO173 := n1_; have HB := n2_; clear n0_ n1_ n2_; clear hb ho86; obtain ⟨Ao87, co87, eo87⟩ := Kd.R_slice HO173.out; subst eo87) | ((with_reducible refine gate_callee (f := 22) rfl ?_); refine goesL_ (some 98) rfl rfl Try.func22 (by kernel_rfl) rfl #[.slice (some ⟨go71, 0, none⟩) y170.length co33, .slice Ao87 y171.length co87] rfl (by (try simp only [List.map_toArray, List.map_cons, List.map_nil]); first | done | (rw [show y170.length = y145.length from (Kd.N_reads' HO_14.out).1.symm] <;> rfl) | rfl | (simp only [List.length_drop, List.length_take]; rfl)) ?_; (with_reducible refine (rs_Fix.calls _ _ y170 _ _ y171 t174 false _ ?side1 ?side2 ?side3 ?side4 A72.out).mono ?_); (case side1 => repeat (first | exact (Kd.N_reads' HO_14.out).2.2 | (with_reducible refine Kd.C_alloc ?_ _) | (with_reducible refine Kd.C_drewN ?_ _) | (with_reducible refine Kd.C_drew ?_))); (case side2 => rw [show y170.length = y145.length from (Kd.N_reads' HO_14.out).1.symm]; exact (Kd.N_reads' HO_14.out).2.1); (case side3 => repeat (first | exact (Kd.R_reads' HO173.out).2.2 | (with_reducible refine Kd.C_alloc ?_ _) | (with_reducible refine Kd.C_drewN ?_ _) | (with_reducible refine Kd.C_drew ?_))); (case side4 => exact (Kd.R_reads' HO173.out).2.1); rintro e w88 ⟨v175, rfl, ho0, hb⟩; refine ⟨_, rfl, ?_⟩; have n0_ := Aside0.mk (Kd.N_elder' (by (with_reducible repeat (first | apply Kd.N_alloc | apply Kd.N_drewN | apply Kd.N_drew)); exact HO_14.out) (Kd.N_base ho0) hb); have n1_ := Aside0.mk (Kd.R_below (by (with_reducible repeat (first | apply Kd.R_alloc | apply Kd.R_drewN | apply Kd.R_drew)); exact HO173.out) hb); have n2_ := Aside0.mk (Kd.N_lower (Kd.N_mono (ok' := fun k_ => some k_ ≠ (.slice (some ⟨go71, 0, none⟩) y145.length co33 : Value).ownBlock ∧ some k_ ≠ (.slice Ao87 y171.length co87 : Value).ownBlock) ho0 (fun k_ hk_ => ⟨(Kd.fresh' (Kd.N_lt (by (with_reducible repeat (first | apply Kd.N_alloc | apply Kd.N_drewN | apply Kd.N_drew)); exact HO_14.out)) k_ hk_), (Kd.fresh' (Kd.R_lt (by (with_reducible repeat (first | apply Kd.R_alloc | apply Kd.R_drewN | apply Kd.R_drew)); exact HO173.out)) k_ hk_)⟩)) (below_size (by repeat (first | (with_reducible first | exact HB.out | apply below_alloc | apply pw_below_drewN | apply below_drew1) | exact HB.out)))); have n3_ := Aside0.mk (below_step (by repeat (first | (with_reducible first | exact HB.out | apply below_alloc | apply pw_below_drewN | apply below_drew1) | exact HB.out)) hb); clear HO_14; clear HO173; clear HB; have HO_14 := n0_; have HO173 := n1_; have HO176 := n2_; have HB := n3_; clear n0_ n1_ n2_ n3_; (try clear hb); (try clear hb2); (try clear hk); (try clear hi); (try clear ho0)))
                            go_ret
                            exact ⟨by first | rfl | (simp [errW_none, errW_some] <;> rfl) | (simp only [← hji16]; first | rfl | (simp [errW_none, errW_some] <;> rfl)) | (simp [*, errW_none, errW_some] <;> rfl), by repeat (first | (with_reducible first | exact HB.out | apply below_alloc | apply pw_below_drewN | apply below_drew1) | exact HB.out)⟩
                        · rw [if_neg c70] at H
                          exact absurd H (by simp)
                      · rw [if_neg c69] at H
                        exact absurd H (by simp)
              · rw [if_neg c19] at H
                exact absurd H (by simp)
            · rw [if_neg c18] at H
              exact absurd H (by simp)
          · rw [if_neg c17] at H
            exact absurd H (by simp)
      · rw [if_neg c12] at H
        exact absurd H (by simp)
    · rw [if_neg c11] at H
      exact absurd H (by simp)
  · replace c7 := Bool.eq_false_iff.mpr c7
    subst c7
    have H1 : (some false) = some r := by rw [if_neg (show ¬ (false = true) by decide)] at H; exact H
    clear H
    have H := H1
    clear H1
    obtain rfl := Option.some.inj H
    go_enter Try.func8, Try.ntmps8
    go_wp2_with (first | ((with_reducible refine gate_callee (f := 11) rfl ?_); refine goesL_ (some 22) rfl rfl Try.func11 (by kernel_rfl) rfl #[] rfl (by (try simp only [List.map_toArray, List.map_cons, List.map_nil]); first | done | rfl | (simp only [List.length_drop, List.length_take]; rfl)) ?_; (with_reducible refine (ramekinlaw5_known.calls  false _ A6.out).mono ?_); rintro e w89 ⟨rfl, hb⟩; refine ⟨_, rfl, ?_⟩; have n0_ := Aside0.mk (below_step (by repeat (first | (with_reducible first | exact HB.out | apply below_alloc | apply pw_below_drewN | apply below_drew1) | exact HB.out)) hb); clear HB; have HB := n0_; clear n0_; (try clear hb); (try clear hb2); (try clear hk); (try clear hi)))
    go_ret
    exact ⟨by first | rfl | (simp [errW_none, errW_some] <;> rfl) | (simp [*, errW_none, errW_some] <;> rfl), by repeat (first | (with_reducible first | exact HB.out | apply below_alloc | apply pw_below_drewN | apply below_drew1) | exact HB.out)⟩

/-- THE ONE PURE STATEMENT of ramekinlaw5_RsDetects: yours. -/
def ramekinlaw5_RsDetects.Pure : Prop := ∀ (l0 : List Int) (a1 : Int) (a2 : Int) (a3 : Int) (l4 : List Int), l0.length ≤ maxLen → l0.length * 1 ≤ 140737488351232 → (∀ x ∈ l0, (Lit.int .u8 x).wf = true) → (Lit.int .i64 a1).wf = true → (Lit.int .i64 a2).wf = true → (Lit.int .i64 a3).wf = true → l4.length ≤ maxLen → l4.length * 1 ≤ 140737488351232 → (∀ x ∈ l4, (Lit.int .u8 x).wf = true) → ∃ k, ramekinlaw5_RsDetects.f k l0 a1 a2 a3 l4 = some true
theorem ramekinlaw5_RsDetects.walk (P : ramekinlaw5_RsDetects.Pure) (a0 : Option Addr) (len0 cap0 : Nat) (z0 : List Int) (a1 : Int) (a2 : Int) (a3 : Int) (a4 : Option Addr) (len4 cap4 : Nat) (z4 : List Int) (w : World) (w0 : (a0 = none ∧ len0 = 0 ∧ cap0 = 0 ∧ z0 = []) ∨ ∃ x, a0 = some x ∧ len0 ≤ cap0 ∧ cap0 ≤ maxLen ∧ z0.length = cap0 ∧ (∀ i, i < z0.length → w.cell? (x.add i) = some (.int .u8 (z0.getD i 0))) ∧ ∀ n ∈ z0, (Lit.int .u8 n).wf = true) (y0 : len0 * 1 ≤ 140737488351232) (w1 : (Lit.int .i64 a1).wf = true) (w2 : (Lit.int .i64 a2).wf = true) (w3 : (Lit.int .i64 a3).wf = true) (w4 : (a4 = none ∧ len4 = 0 ∧ cap4 = 0 ∧ z4 = []) ∨ ∃ x, a4 = some x ∧ len4 ≤ cap4 ∧ cap4 ≤ maxLen ∧ z4.length = cap4 ∧ (∀ i, i < z4.length → w.cell? (x.add i) = some (.int .u8 (z4.getD i 0))) ∧ ∀ n ∈ z4, (Lit.int .u8 n).wf = true) (y4 : len4 * 1 ≤ 140737488351232) :
    Calls Try.prog 8 #[.slice a0 len0 cap0, .int .i64 a1, .int .i64 a2, .int .i64 a3, .slice a4 len4 cap4] w fun e w' => e = .returned (.bool true) ∧ Below w.heap.size w w' := by
  obtain ⟨l0, rfl, hr0, hm0, hw0, hc0⟩ := ReadsInt.ofRowC w0
  obtain ⟨l4, rfl, hr4, hm4, hw4, hc4⟩ := ReadsInt.ofRowC w4
  obtain ⟨k, h⟩ := P l0 a1 a2 a3 l4 hm0 y0 hw0 w1 w2 w3 hm4 y4 hw4
  refine (ramekinlaw5_RsDetects.calls k _ _ l0 a1 a2 a3 _ _ l4 true w (Kd.C_of_reads (d := (0 : Int)) (h1 := fun _ => rfl) hr0) hc0 (Kd.C_of_reads (d := (0 : Int)) (h1 := fun _ => rfl) hr4) hc4 h).mono ?_
  rintro e w' ⟨rfl, hd⟩
  exact ⟨rfl, hd⟩

end Go.Proofs.Ytdbnladpogpiiaa.PRv
