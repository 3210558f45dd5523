/-
  Functions of the program as plain Lean functions, each with a proof that its call does what that function says. Written by a program of mine (pr.py), which calls a scratch copy of the kit's print.
-/
import Derived.Test.YtpblhedmfeddbaaProg
import Derived.Below
import Derived.Deep.Draws
import Derived.Deep.AppendLies
import Derived.Maps.AppendAt
import Derived.OwnWalk
import Derived.Laws.BytesArg
import Derived.Laws.MakeOwn
import Derived.Laws.OwnMore
import Derived.Deep.OwnRows
import Derived.Tactics
import Derived.Lib.ConvBytes
import Derived.Laws.Slices
import Derived.WalkKit
import Derived.KernelRfl
import Derived.RowKit3
import Derived.Deep.LoopGhost
import Derived.Deep.QuietTactic
import Derived.BigQuiet
import Derived.WideLaws
import Derived.Deep.DeepCutAuto
import Derived.Deep.CutBlock
import Derived.Deep.RegionHeld3
import Derived.Laws.Rows
import Derived.Lib.AppendStr
import Derived.ArgAppend
import Derived.Laws.IdiomCopy
import Derived.OrdersHeld
import Derived.Laws.BitsLemmas
import Derived.RowKit
import Derived.Test.YtpblhedmfeddbaaWWords
import Derived.Test.YtpblhedmfeddbaaWLast
import Derived.Test.YtpblhedmfeddbaaWTab
import Derived.Test.YtpblhedmfeddbaaWFour
import Derived.Test.YtpblhedmfeddbaaWQPut
import Derived.Test.YtpblhedmfeddbaaWApart
import Derived.Test.YtpblhedmfeddbaaWArr
import Derived.Test.YtpblhedmfeddbaaWZeros
import Derived.Test.YtpblhedmfeddbaaWFoot
import Derived.Test.YtpblhedmfeddbaaWKept
import Derived.Test.YtpblhedmfeddbaaWShare
import Derived.Test.YtpblhedmfeddbaaWN
import Derived.Test.YtpblhedmfeddbaaWFootNe
import Derived.Test.YtpblhedmfeddbaaWAt
import Derived.Test.YtpblhedmfeddbaaWEqStruct
import Derived.Test.YtpblhedmfeddbaaWRepsOne
import Derived.Test.YtpblhedmfeddbaaWInv
import Derived.Test.YtpblhedmfeddbaaWInvWords
import Derived.Test.YtpblhedmfeddbaaWGuard
import Derived.Test.YtpblhedmfeddbaaWNEv
import Derived.Test.YtpblhedmfeddbaaWMore
namespace Go.Proofs.Ytpblhedmfeddbaa.PLt
open Go.RowKit Go.Proofs.YtpblhedmfeddbaaW.PrintWords Go.Proofs.YtpblhedmfeddbaaW.PrintLast Go.Proofs.YtpblhedmfeddbaaW.PrintMore
attribute [local go_sem] max2_int min2_int max_two min_two max_three min_three max_four min_four   -- for this text's walks alone
set_option linter.unusedVariables false
set_option linter.unusedSimpArgs false



def errW : Option Int → Value
  | none => .nilIface
  | some c => .iface 0 (.int .i64 c)
theorem errW_none : errW none = .nilIface := rfl
theorem errW_some (c : Int) : errW (some c) = .iface 0 (.int .i64 c) := rfl

theorem info29 : (Try.prog.info? 29).map (fun i => (i.zero, i.size, i.bytes)) = some (some (.agg #[(.int .i64 0), (.int .i64 0), (.int .i64 0), (.int .u8 0), (.int .u8 0), (.int .u8 0), (.int .u8 0), (.int .u8 0), (.int .u8 0), (.int .u8 0), (.int .u8 0), (.int .u8 0), (.int .u8 0), (.int .u8 0), (.int .u8 0), (.int .u8 0), (.int .u8 0), (.int .u8 0), (.int .u8 0)]), 19, 40) := by kernel_rfl
-- the values' own types
/-! #### struct type 27 -/
structure S27 where
  f0 : Int
  f1 : Int
  f2 : Int
  f3 : Int
  f4 : Int
  f5 : Int
  f6 : Int
  f7 : Int
  f8 : Int
  f9 : Int
  f10 : Int
  f11 : Int
  f12 : Int
  f13 : Int
  f14 : Int
  f15 : Int
def z27 : S27 := ⟨(0 : Int), (0 : Int), (0 : Int), (0 : Int), (0 : Int), (0 : Int), (0 : Int), (0 : Int), (0 : Int), (0 : Int), (0 : Int), (0 : Int), (0 : Int), (0 : Int), (0 : Int), (0 : Int)⟩
def k27 : Kd S27 := Kd.iso (Kd.pair (Kd.int .u8) (Kd.pair (Kd.int .u8) (Kd.pair (Kd.int .u8) (Kd.pair (Kd.int .u8) (Kd.pair (Kd.int .u8) (Kd.pair (Kd.int .u8) (Kd.pair (Kd.int .u8) (Kd.pair (Kd.int .u8) (Kd.pair (Kd.int .u8) (Kd.pair (Kd.int .u8) (Kd.pair (Kd.int .u8) (Kd.pair (Kd.int .u8) (Kd.pair (Kd.int .u8) (Kd.pair (Kd.int .u8) (Kd.pair (Kd.int .u8) (Kd.int .u8)))))))))))))))) (fun x : S27 => (x.f0, x.f1, x.f2, x.f3, x.f4, x.f5, x.f6, x.f7, x.f8, x.f9, x.f10, x.f11, x.f12, x.f13, x.f14, x.f15))
theorem k27_open {w : World} {x : S27} {cs : List Value} (h : k27.K w x cs) : cs = [.int .u8 x.f0, .int .u8 x.f1, .int .u8 x.f2, .int .u8 x.f3, .int .u8 x.f4, .int .u8 x.f5, .int .u8 x.f6, .int .u8 x.f7, .int .u8 x.f8, .int .u8 x.f9, .int .u8 x.f10, .int .u8 x.f11, .int .u8 x.f12, .int .u8 x.f13, .int .u8 x.f14, .int .u8 x.f15] := by
  obtain ⟨_, _, rfl, rfl, ⟨_, _, rfl, rfl, ⟨_, _, rfl, rfl, ⟨_, _, rfl, rfl, ⟨_, _, rfl, rfl, ⟨_, _, rfl, rfl, ⟨_, _, rfl, rfl, ⟨_, _, rfl, rfl, ⟨_, _, rfl, rfl, ⟨_, _, rfl, rfl, ⟨_, _, rfl, rfl, ⟨_, _, rfl, rfl, ⟨_, _, rfl, rfl, ⟨_, _, rfl, rfl, ⟨_, _, rfl, rfl, rfl⟩⟩⟩⟩⟩⟩⟩⟩⟩⟩⟩⟩⟩⟩⟩ := h
  exact rfl
theorem k27_openM {w : World} {base : Nat} {ok : Nat → Prop} {x : S27} {cs : List Value} (h : k27.M w base ok x cs) : cs = [.int .u8 x.f0, .int .u8 x.f1, .int .u8 x.f2, .int .u8 x.f3, .int .u8 x.f4, .int .u8 x.f5, .int .u8 x.f6, .int .u8 x.f7, .int .u8 x.f8, .int .u8 x.f9, .int .u8 x.f10, .int .u8 x.f11, .int .u8 x.f12, .int .u8 x.f13, .int .u8 x.f14, .int .u8 x.f15] := by
  obtain ⟨_, _, rfl, rfl, ⟨_, _, rfl, rfl, ⟨_, _, rfl, rfl, ⟨_, _, rfl, rfl, ⟨_, _, rfl, rfl, ⟨_, _, rfl, rfl, ⟨_, _, rfl, rfl, ⟨_, _, rfl, rfl, ⟨_, _, rfl, rfl, ⟨_, _, rfl, rfl, ⟨_, _, rfl, rfl, ⟨_, _, rfl, rfl, ⟨_, _, rfl, rfl, ⟨_, _, rfl, rfl, ⟨_, _, rfl, rfl, rfl⟩⟩⟩⟩⟩⟩⟩⟩⟩⟩⟩⟩⟩⟩⟩ := h
  exact rfl
theorem k27_mk (w : World) (x : S27)  : k27.K w x [.int .u8 x.f0, .int .u8 x.f1, .int .u8 x.f2, .int .u8 x.f3, .int .u8 x.f4, .int .u8 x.f5, .int .u8 x.f6, .int .u8 x.f7, .int .u8 x.f8, .int .u8 x.f9, .int .u8 x.f10, .int .u8 x.f11, .int .u8 x.f12, .int .u8 x.f13, .int .u8 x.f14, .int .u8 x.f15] := ⟨[.int .u8 x.f0], [.int .u8 x.f1, .int .u8 x.f2, .int .u8 x.f3, .int .u8 x.f4, .int .u8 x.f5, .int .u8 x.f6, .int .u8 x.f7, .int .u8 x.f8, .int .u8 x.f9, .int .u8 x.f10, .int .u8 x.f11, .int .u8 x.f12, .int .u8 x.f13, .int .u8 x.f14, .int .u8 x.f15], rfl, rfl, ⟨[.int .u8 x.f1], [.int .u8 x.f2, .int .u8 x.f3, .int .u8 x.f4, .int .u8 x.f5, .int .u8 x.f6, .int .u8 x.f7, .int .u8 x.f8, .int .u8 x.f9, .int .u8 x.f10, .int .u8 x.f11, .int .u8 x.f12, .int .u8 x.f13, .int .u8 x.f14, .int .u8 x.f15], rfl, rfl, ⟨[.int .u8 x.f2], [.int .u8 x.f3, .int .u8 x.f4, .int .u8 x.f5, .int .u8 x.f6, .int .u8 x.f7, .int .u8 x.f8, .int .u8 x.f9, .int .u8 x.f10, .int .u8 x.f11, .int .u8 x.f12, .int .u8 x.f13, .int .u8 x.f14, .int .u8 x.f15], rfl, rfl, ⟨[.int .u8 x.f3], [.int .u8 x.f4, .int .u8 x.f5, .int .u8 x.f6, .int .u8 x.f7, .int .u8 x.f8, .int .u8 x.f9, .int .u8 x.f10, .int .u8 x.f11, .int .u8 x.f12, .int .u8 x.f13, .int .u8 x.f14, .int .u8 x.f15], rfl, rfl, ⟨[.int .u8 x.f4], [.int .u8 x.f5, .int .u8 x.f6, .int .u8 x.f7, .int .u8 x.f8, .int .u8 x.f9, .int .u8 x.f10, .int .u8 x.f11, .int .u8 x.f12, .int .u8 x.f13, .int .u8 x.f14, .int .u8 x.f15], rfl, rfl, ⟨[.int .u8 x.f5], [.int .u8 x.f6, .int .u8 x.f7, .int .u8 x.f8, .int .u8 x.f9, .int .u8 x.f10, .int .u8 x.f11, .int .u8 x.f12, .int .u8 x.f13, .int .u8 x.f14, .int .u8 x.f15], rfl, rfl, ⟨[.int .u8 x.f6], [.int .u8 x.f7, .int .u8 x.f8, .int .u8 x.f9, .int .u8 x.f10, .int .u8 x.f11, .int .u8 x.f12, .int .u8 x.f13, .int .u8 x.f14, .int .u8 x.f15], rfl, rfl, ⟨[.int .u8 x.f7], [.int .u8 x.f8, .int .u8 x.f9, .int .u8 x.f10, .int .u8 x.f11, .int .u8 x.f12, .int .u8 x.f13, .int .u8 x.f14, .int .u8 x.f15], rfl, rfl, ⟨[.int .u8 x.f8], [.int .u8 x.f9, .int .u8 x.f10, .int .u8 x.f11, .int .u8 x.f12, .int .u8 x.f13, .int .u8 x.f14, .int .u8 x.f15], rfl, rfl, ⟨[.int .u8 x.f9], [.int .u8 x.f10, .int .u8 x.f11, .int .u8 x.f12, .int .u8 x.f13, .int .u8 x.f14, .int .u8 x.f15], rfl, rfl, ⟨[.int .u8 x.f10], [.int .u8 x.f11, .int .u8 x.f12, .int .u8 x.f13, .int .u8 x.f14, .int .u8 x.f15], rfl, rfl, ⟨[.int .u8 x.f11], [.int .u8 x.f12, .int .u8 x.f13, .int .u8 x.f14, .int .u8 x.f15], rfl, rfl, ⟨[.int .u8 x.f12], [.int .u8 x.f13, .int .u8 x.f14, .int .u8 x.f15], rfl, rfl, ⟨[.int .u8 x.f13], [.int .u8 x.f14, .int .u8 x.f15], rfl, rfl, ⟨[.int .u8 x.f14], [.int .u8 x.f15], rfl, rfl, rfl⟩⟩⟩⟩⟩⟩⟩⟩⟩⟩⟩⟩⟩⟩⟩
theorem k27_mkM (w : World) (base : Nat) (ok : Nat → Prop) (x : S27)  : k27.M w base ok x [.int .u8 x.f0, .int .u8 x.f1, .int .u8 x.f2, .int .u8 x.f3, .int .u8 x.f4, .int .u8 x.f5, .int .u8 x.f6, .int .u8 x.f7, .int .u8 x.f8, .int .u8 x.f9, .int .u8 x.f10, .int .u8 x.f11, .int .u8 x.f12, .int .u8 x.f13, .int .u8 x.f14, .int .u8 x.f15] := ⟨[.int .u8 x.f0], [.int .u8 x.f1, .int .u8 x.f2, .int .u8 x.f3, .int .u8 x.f4, .int .u8 x.f5, .int .u8 x.f6, .int .u8 x.f7, .int .u8 x.f8, .int .u8 x.f9, .int .u8 x.f10, .int .u8 x.f11, .int .u8 x.f12, .int .u8 x.f13, .int .u8 x.f14, .int .u8 x.f15], rfl, rfl, ⟨[.int .u8 x.f1], [.int .u8 x.f2, .int .u8 x.f3, .int .u8 x.f4, .int .u8 x.f5, .int .u8 x.f6, .int .u8 x.f7, .int .u8 x.f8, .int .u8 x.f9, .int .u8 x.f10, .int .u8 x.f11, .int .u8 x.f12, .int .u8 x.f13, .int .u8 x.f14, .int .u8 x.f15], rfl, rfl, ⟨[.int .u8 x.f2], [.int .u8 x.f3, .int .u8 x.f4, .int .u8 x.f5, .int .u8 x.f6, .int .u8 x.f7, .int .u8 x.f8, .int .u8 x.f9, .int .u8 x.f10, .int .u8 x.f11, .int .u8 x.f12, .int .u8 x.f13, .int .u8 x.f14, .int .u8 x.f15], rfl, rfl, ⟨[.int .u8 x.f3], [.int .u8 x.f4, .int .u8 x.f5, .int .u8 x.f6, .int .u8 x.f7, .int .u8 x.f8, .int .u8 x.f9, .int .u8 x.f10, .int .u8 x.f11, .int .u8 x.f12, .int .u8 x.f13, .int .u8 x.f14, .int .u8 x.f15], rfl, rfl, ⟨[.int .u8 x.f4], [.int .u8 x.f5, .int .u8 x.f6, .int .u8 x.f7, .int .u8 x.f8, .int .u8 x.f9, .int .u8 x.f10, .int .u8 x.f11, .int .u8 x.f12, .int .u8 x.f13, .int .u8 x.f14, .int .u8 x.f15], rfl, rfl, ⟨[.int .u8 x.f5], [.int .u8 x.f6, .int .u8 x.f7, .int .u8 x.f8, .int .u8 x.f9, .int .u8 x.f10, .int .u8 x.f11, .int .u8 x.f12, .int .u8 x.f13, .int .u8 x.f14, .int .u8 x.f15], rfl, rfl, ⟨[.int .u8 x.f6], [.int .u8 x.f7, .int .u8 x.f8, .int .u8 x.f9, .int .u8 x.f10, .int .u8 x.f11, .int .u8 x.f12, .int .u8 x.f13, .int .u8 x.f14, .int .u8 x.f15], rfl, rfl, ⟨[.int .u8 x.f7], [.int .u8 x.f8, .int .u8 x.f9, .int .u8 x.f10, .int .u8 x.f11, .int .u8 x.f12, .int .u8 x.f13, .int .u8 x.f14, .int .u8 x.f15], rfl, rfl, ⟨[.int .u8 x.f8], [.int .u8 x.f9, .int .u8 x.f10, .int .u8 x.f11, .int .u8 x.f12, .int .u8 x.f13, .int .u8 x.f14, .int .u8 x.f15], rfl, rfl, ⟨[.int .u8 x.f9], [.int .u8 x.f10, .int .u8 x.f11, .int .u8 x.f12, .int .u8 x.f13, .int .u8 x.f14, .int .u8 x.f15], rfl, rfl, ⟨[.int .u8 x.f10], [.int .u8 x.f11, .int .u8 x.f12, .int .u8 x.f13, .int .u8 x.f14, .int .u8 x.f15], rfl, rfl, ⟨[.int .u8 x.f11], [.int .u8 x.f12, .int .u8 x.f13, .int .u8 x.f14, .int .u8 x.f15], rfl, rfl, ⟨[.int .u8 x.f12], [.int .u8 x.f13, .int .u8 x.f14, .int .u8 x.f15], rfl, rfl, ⟨[.int .u8 x.f13], [.int .u8 x.f14, .int .u8 x.f15], rfl, rfl, ⟨[.int .u8 x.f14], [.int .u8 x.f15], rfl, rfl, rfl⟩⟩⟩⟩⟩⟩⟩⟩⟩⟩⟩⟩⟩⟩⟩
def rd_T27 (xs : List S27) (i : Int) : S27 := xs.getD i.toNat z27
theorem at_T27 {w : World} {A : Option Addr} {n : Nat} {xs : List S27} (h : Kd.C k27 w A n xs) (i : Int) (h0 : 0 ≤ i) (h1 : i < n) : ∃ ad , A = some ad ∧ w.cell? (ad.add (i.toNat * 16)) = some (.int .u8 (rd_T27 xs i).f0) ∧ w.cell? ⟨(ad.add (i.toNat * 16)).block, (ad.add (i.toNat * 16)).off + 1, none⟩ = some (.int .u8 (rd_T27 xs i).f1) ∧ w.cell? ⟨(ad.add (i.toNat * 16)).block, (ad.add (i.toNat * 16)).off + 2, none⟩ = some (.int .u8 (rd_T27 xs i).f2) ∧ w.cell? ⟨(ad.add (i.toNat * 16)).block, (ad.add (i.toNat * 16)).off + 3, none⟩ = some (.int .u8 (rd_T27 xs i).f3) ∧ w.cell? ⟨(ad.add (i.toNat * 16)).block, (ad.add (i.toNat * 16)).off + 4, none⟩ = some (.int .u8 (rd_T27 xs i).f4) ∧ w.cell? ⟨(ad.add (i.toNat * 16)).block, (ad.add (i.toNat * 16)).off + 5, none⟩ = some (.int .u8 (rd_T27 xs i).f5) ∧ w.cell? ⟨(ad.add (i.toNat * 16)).block, (ad.add (i.toNat * 16)).off + 6, none⟩ = some (.int .u8 (rd_T27 xs i).f6) ∧ w.cell? ⟨(ad.add (i.toNat * 16)).block, (ad.add (i.toNat * 16)).off + 7, none⟩ = some (.int .u8 (rd_T27 xs i).f7) ∧ w.cell? ⟨(ad.add (i.toNat * 16)).block, (ad.add (i.toNat * 16)).off + 8, none⟩ = some (.int .u8 (rd_T27 xs i).f8) ∧ w.cell? ⟨(ad.add (i.toNat * 16)).block, (ad.add (i.toNat * 16)).off + 9, none⟩ = some (.int .u8 (rd_T27 xs i).f9) ∧ w.cell? ⟨(ad.add (i.toNat * 16)).block, (ad.add (i.toNat * 16)).off + 10, none⟩ = some (.int .u8 (rd_T27 xs i).f10) ∧ w.cell? ⟨(ad.add (i.toNat * 16)).block, (ad.add (i.toNat * 16)).off + 11, none⟩ = some (.int .u8 (rd_T27 xs i).f11) ∧ w.cell? ⟨(ad.add (i.toNat * 16)).block, (ad.add (i.toNat * 16)).off + 12, none⟩ = some (.int .u8 (rd_T27 xs i).f12) ∧ w.cell? ⟨(ad.add (i.toNat * 16)).block, (ad.add (i.toNat * 16)).off + 13, none⟩ = some (.int .u8 (rd_T27 xs i).f13) ∧ w.cell? ⟨(ad.add (i.toNat * 16)).block, (ad.add (i.toNat * 16)).off + 14, none⟩ = some (.int .u8 (rd_T27 xs i).f14) ∧ w.cell? ⟨(ad.add (i.toNat * 16)).block, (ad.add (i.toNat * 16)).off + 15, none⟩ = some (.int .u8 (rd_T27 xs i).f15) := by
  obtain ⟨ad, c, e, _, hK, hc0⟩ := Kd.C_get h z27 i h0 h1
  have hc : ∀ j u, c[j]? = some u → w.cell? (ad.add (i.toNat * 16 + j)) = some u := hc0
  obtain rfl := k27_open hK
  exact ⟨ad, e, hc 0 _ rfl, by rw [← add_field _ _ 1 (by omega)]; exact hc 1 _ rfl, by rw [← add_field _ _ 2 (by omega)]; exact hc 2 _ rfl, by rw [← add_field _ _ 3 (by omega)]; exact hc 3 _ rfl, by rw [← add_field _ _ 4 (by omega)]; exact hc 4 _ rfl, by rw [← add_field _ _ 5 (by omega)]; exact hc 5 _ rfl, by rw [← add_field _ _ 6 (by omega)]; exact hc 6 _ rfl, by rw [← add_field _ _ 7 (by omega)]; exact hc 7 _ rfl, by rw [← add_field _ _ 8 (by omega)]; exact hc 8 _ rfl, by rw [← add_field _ _ 9 (by omega)]; exact hc 9 _ rfl, by rw [← add_field _ _ 10 (by omega)]; exact hc 10 _ rfl, by rw [← add_field _ _ 11 (by omega)]; exact hc 11 _ rfl, by rw [← add_field _ _ 12 (by omega)]; exact hc 12 _ rfl, by rw [← add_field _ _ 13 (by omega)]; exact hc 13 _ rfl, by rw [← add_field _ _ 14 (by omega)]; exact hc 14 _ rfl, by rw [← add_field _ _ 15 (by omega)]; exact hc 15 _ rfl⟩

/-! #### struct type 29 -/
structure S29 where
  f0 : Int
  f1 : Int
  f2 : Int
  f3 : S27
def z29 : S29 := ⟨(0 : Int), (0 : Int), (0 : Int), z27⟩
def k29 : Kd S29 := Kd.iso (Kd.pair (Kd.int .i64) (Kd.pair (Kd.int .i64) (Kd.pair (Kd.int .i64) k27))) (fun x : S29 => (x.f0, x.f1, x.f2, x.f3))
theorem k29_open {w : World} {x : S29} {cs : List Value} (h : k29.K w x cs) : cs = [.int .i64 x.f0, .int .i64 x.f1, .int .i64 x.f2, .int .u8 x.f3.f0, .int .u8 x.f3.f1, .int .u8 x.f3.f2, .int .u8 x.f3.f3, .int .u8 x.f3.f4, .int .u8 x.f3.f5, .int .u8 x.f3.f6, .int .u8 x.f3.f7, .int .u8 x.f3.f8, .int .u8 x.f3.f9, .int .u8 x.f3.f10, .int .u8 x.f3.f11, .int .u8 x.f3.f12, .int .u8 x.f3.f13, .int .u8 x.f3.f14, .int .u8 x.f3.f15] := by
  obtain ⟨_, _, rfl, rfl, ⟨_, _, rfl, rfl, ⟨_, _, rfl, rfl, s3⟩⟩⟩ := h
  obtain rfl := k27_open s3
  exact rfl
theorem k29_openM {w : World} {base : Nat} {ok : Nat → Prop} {x : S29} {cs : List Value} (h : k29.M w base ok x cs) : cs = [.int .i64 x.f0, .int .i64 x.f1, .int .i64 x.f2, .int .u8 x.f3.f0, .int .u8 x.f3.f1, .int .u8 x.f3.f2, .int .u8 x.f3.f3, .int .u8 x.f3.f4, .int .u8 x.f3.f5, .int .u8 x.f3.f6, .int .u8 x.f3.f7, .int .u8 x.f3.f8, .int .u8 x.f3.f9, .int .u8 x.f3.f10, .int .u8 x.f3.f11, .int .u8 x.f3.f12, .int .u8 x.f3.f13, .int .u8 x.f3.f14, .int .u8 x.f3.f15] := by
  obtain ⟨_, _, rfl, rfl, ⟨_, _, rfl, rfl, ⟨_, _, rfl, rfl, s3⟩⟩⟩ := h
  obtain rfl := k27_openM s3
  exact rfl
theorem k29_mk (w : World) (x : S29)  : k29.K w x [.int .i64 x.f0, .int .i64 x.f1, .int .i64 x.f2, .int .u8 x.f3.f0, .int .u8 x.f3.f1, .int .u8 x.f3.f2, .int .u8 x.f3.f3, .int .u8 x.f3.f4, .int .u8 x.f3.f5, .int .u8 x.f3.f6, .int .u8 x.f3.f7, .int .u8 x.f3.f8, .int .u8 x.f3.f9, .int .u8 x.f3.f10, .int .u8 x.f3.f11, .int .u8 x.f3.f12, .int .u8 x.f3.f13, .int .u8 x.f3.f14, .int .u8 x.f3.f15] := ⟨[.int .i64 x.f0], [.int .i64 x.f1, .int .i64 x.f2, .int .u8 x.f3.f0, .int .u8 x.f3.f1, .int .u8 x.f3.f2, .int .u8 x.f3.f3, .int .u8 x.f3.f4, .int .u8 x.f3.f5, .int .u8 x.f3.f6, .int .u8 x.f3.f7, .int .u8 x.f3.f8, .int .u8 x.f3.f9, .int .u8 x.f3.f10, .int .u8 x.f3.f11, .int .u8 x.f3.f12, .int .u8 x.f3.f13, .int .u8 x.f3.f14, .int .u8 x.f3.f15], rfl, rfl, ⟨[.int .i64 x.f1], [.int .i64 x.f2, .int .u8 x.f3.f0, .int .u8 x.f3.f1, .int .u8 x.f3.f2, .int .u8 x.f3.f3, .int .u8 x.f3.f4, .int .u8 x.f3.f5, .int .u8 x.f3.f6, .int .u8 x.f3.f7, .int .u8 x.f3.f8, .int .u8 x.f3.f9, .int .u8 x.f3.f10, .int .u8 x.f3.f11, .int .u8 x.f3.f12, .int .u8 x.f3.f13, .int .u8 x.f3.f14, .int .u8 x.f3.f15], rfl, rfl, ⟨[.int .i64 x.f2], [.int .u8 x.f3.f0, .int .u8 x.f3.f1, .int .u8 x.f3.f2, .int .u8 x.f3.f3, .int .u8 x.f3.f4, .int .u8 x.f3.f5, .int .u8 x.f3.f6, .int .u8 x.f3.f7, .int .u8 x.f3.f8, .int .u8 x.f3.f9, .int .u8 x.f3.f10, .int .u8 x.f3.f11, .int .u8 x.f3.f12, .int .u8 x.f3.f13, .int .u8 x.f3.f14, .int .u8 x.f3.f15], rfl, rfl, (k27_mk w x.f3 )⟩⟩⟩
theorem k29_mkM (w : World) (base : Nat) (ok : Nat → Prop) (x : S29)  : k29.M w base ok x [.int .i64 x.f0, .int .i64 x.f1, .int .i64 x.f2, .int .u8 x.f3.f0, .int .u8 x.f3.f1, .int .u8 x.f3.f2, .int .u8 x.f3.f3, .int .u8 x.f3.f4, .int .u8 x.f3.f5, .int .u8 x.f3.f6, .int .u8 x.f3.f7, .int .u8 x.f3.f8, .int .u8 x.f3.f9, .int .u8 x.f3.f10, .int .u8 x.f3.f11, .int .u8 x.f3.f12, .int .u8 x.f3.f13, .int .u8 x.f3.f14, .int .u8 x.f3.f15] := ⟨[.int .i64 x.f0], [.int .i64 x.f1, .int .i64 x.f2, .int .u8 x.f3.f0, .int .u8 x.f3.f1, .int .u8 x.f3.f2, .int .u8 x.f3.f3, .int .u8 x.f3.f4, .int .u8 x.f3.f5, .int .u8 x.f3.f6, .int .u8 x.f3.f7, .int .u8 x.f3.f8, .int .u8 x.f3.f9, .int .u8 x.f3.f10, .int .u8 x.f3.f11, .int .u8 x.f3.f12, .int .u8 x.f3.f13, .int .u8 x.f3.f14, .int .u8 x.f3.f15], rfl, rfl, ⟨[.int .i64 x.f1], [.int .i64 x.f2, .int .u8 x.f3.f0, .int .u8 x.f3.f1, .int .u8 x.f3.f2, .int .u8 x.f3.f3, .int .u8 x.f3.f4, .int .u8 x.f3.f5, .int .u8 x.f3.f6, .int .u8 x.f3.f7, .int .u8 x.f3.f8, .int .u8 x.f3.f9, .int .u8 x.f3.f10, .int .u8 x.f3.f11, .int .u8 x.f3.f12, .int .u8 x.f3.f13, .int .u8 x.f3.f14, .int .u8 x.f3.f15], rfl, rfl, ⟨[.int .i64 x.f2], [.int .u8 x.f3.f0, .int .u8 x.f3.f1, .int .u8 x.f3.f2, .int .u8 x.f3.f3, .int .u8 x.f3.f4, .int .u8 x.f3.f5, .int .u8 x.f3.f6, .int .u8 x.f3.f7, .int .u8 x.f3.f8, .int .u8 x.f3.f9, .int .u8 x.f3.f10, .int .u8 x.f3.f11, .int .u8 x.f3.f12, .int .u8 x.f3.f13, .int .u8 x.f3.f14, .int .u8 x.f3.f15], rfl, rfl, (k27_mkM w base ok x.f3 )⟩⟩⟩
def rd_T29 (xs : List S29) (i : Int) : S29 := xs.getD i.toNat z29
theorem at_T29 {w : World} {A : Option Addr} {n : Nat} {xs : List S29} (h : Kd.C k29 w A n xs) (i : Int) (h0 : 0 ≤ i) (h1 : i < n) : ∃ ad , A = some ad ∧ w.cell? (ad.add (i.toNat * 19)) = some (.int .i64 (rd_T29 xs i).f0) ∧ w.cell? ⟨(ad.add (i.toNat * 19)).block, (ad.add (i.toNat * 19)).off + 1, none⟩ = some (.int .i64 (rd_T29 xs i).f1) ∧ w.cell? ⟨(ad.add (i.toNat * 19)).block, (ad.add (i.toNat * 19)).off + 2, none⟩ = some (.int .i64 (rd_T29 xs i).f2) ∧ w.cell? ⟨(ad.add (i.toNat * 19)).block, (ad.add (i.toNat * 19)).off + 3, none⟩ = some (.int .u8 (rd_T29 xs i).f3.f0) ∧ w.cell? ⟨(ad.add (i.toNat * 19)).block, (ad.add (i.toNat * 19)).off + 4, none⟩ = some (.int .u8 (rd_T29 xs i).f3.f1) ∧ w.cell? ⟨(ad.add (i.toNat * 19)).block, (ad.add (i.toNat * 19)).off + 5, none⟩ = some (.int .u8 (rd_T29 xs i).f3.f2) ∧ w.cell? ⟨(ad.add (i.toNat * 19)).block, (ad.add (i.toNat * 19)).off + 6, none⟩ = some (.int .u8 (rd_T29 xs i).f3.f3) ∧ w.cell? ⟨(ad.add (i.toNat * 19)).block, (ad.add (i.toNat * 19)).off + 7, none⟩ = some (.int .u8 (rd_T29 xs i).f3.f4) ∧ w.cell? ⟨(ad.add (i.toNat * 19)).block, (ad.add (i.toNat * 19)).off + 8, none⟩ = some (.int .u8 (rd_T29 xs i).f3.f5) ∧ w.cell? ⟨(ad.add (i.toNat * 19)).block, (ad.add (i.toNat * 19)).off + 9, none⟩ = some (.int .u8 (rd_T29 xs i).f3.f6) ∧ w.cell? ⟨(ad.add (i.toNat * 19)).block, (ad.add (i.toNat * 19)).off + 10, none⟩ = some (.int .u8 (rd_T29 xs i).f3.f7) ∧ w.cell? ⟨(ad.add (i.toNat * 19)).block, (ad.add (i.toNat * 19)).off + 11, none⟩ = some (.int .u8 (rd_T29 xs i).f3.f8) ∧ w.cell? ⟨(ad.add (i.toNat * 19)).block, (ad.add (i.toNat * 19)).off + 12, none⟩ = some (.int .u8 (rd_T29 xs i).f3.f9) ∧ w.cell? ⟨(ad.add (i.toNat * 19)).block, (ad.add (i.toNat * 19)).off + 13, none⟩ = some (.int .u8 (rd_T29 xs i).f3.f10) ∧ w.cell? ⟨(ad.add (i.toNat * 19)).block, (ad.add (i.toNat * 19)).off + 14, none⟩ = some (.int .u8 (rd_T29 xs i).f3.f11) ∧ w.cell? ⟨(ad.add (i.toNat * 19)).block, (ad.add (i.toNat * 19)).off + 15, none⟩ = some (.int .u8 (rd_T29 xs i).f3.f12) ∧ w.cell? ⟨(ad.add (i.toNat * 19)).block, (ad.add (i.toNat * 19)).off + 16, none⟩ = some (.int .u8 (rd_T29 xs i).f3.f13) ∧ w.cell? ⟨(ad.add (i.toNat * 19)).block, (ad.add (i.toNat * 19)).off + 17, none⟩ = some (.int .u8 (rd_T29 xs i).f3.f14) ∧ w.cell? ⟨(ad.add (i.toNat * 19)).block, (ad.add (i.toNat * 19)).off + 18, none⟩ = some (.int .u8 (rd_T29 xs i).f3.f15) := by
  obtain ⟨ad, c, e, _, hK, hc0⟩ := Kd.C_get h z29 i h0 h1
  have hc : ∀ j u, c[j]? = some u → w.cell? (ad.add (i.toNat * 19 + j)) = some u := hc0
  obtain rfl := k29_open hK
  exact ⟨ad, e, hc 0 _ rfl, by rw [← add_field _ _ 1 (by omega)]; exact hc 1 _ rfl, by rw [← add_field _ _ 2 (by omega)]; exact hc 2 _ rfl, by rw [← add_field _ _ 3 (by omega)]; exact hc 3 _ rfl, by rw [← add_field _ _ 4 (by omega)]; exact hc 4 _ rfl, by rw [← add_field _ _ 5 (by omega)]; exact hc 5 _ rfl, by rw [← add_field _ _ 6 (by omega)]; exact hc 6 _ rfl, by rw [← add_field _ _ 7 (by omega)]; exact hc 7 _ rfl, by rw [← add_field _ _ 8 (by omega)]; exact hc 8 _ rfl, by rw [← add_field _ _ 9 (by omega)]; exact hc 9 _ rfl, by rw [← add_field _ _ 10 (by omega)]; exact hc 10 _ rfl, by rw [← add_field _ _ 11 (by omega)]; exact hc 11 _ rfl, by rw [← add_field _ _ 12 (by omega)]; exact hc 12 _ rfl, by rw [← add_field _ _ 13 (by omega)]; exact hc 13 _ rfl, by rw [← add_field _ _ 14 (by omega)]; exact hc 14 _ rfl, by rw [← add_field _ _ 15 (by omega)]; exact hc 15 _ rfl, by rw [← add_field _ _ 16 (by omega)]; exact hc 16 _ rfl, by rw [← add_field _ _ 17 (by omega)]; exact hc 17 _ rfl, by rw [← add_field _ _ 18 (by omega)]; exact hc 18 _ rfl⟩

end Go.Proofs.Ytpblhedmfeddbaa.PLt
