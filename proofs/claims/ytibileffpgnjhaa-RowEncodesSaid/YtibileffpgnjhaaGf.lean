/-
  The walks of package gf.
-/
import Derived.Test.YtibileffpgnjhaaProg
import Derived.Test.YtibileffpgnjhaaRng
import Derived.StillTailTactics
import Derived.RegionIn
import Derived.Stop.RegionWithIn
namespace Go.Proofs.Ytibileffpgnjhaa.Base
set_option linter.unusedSimpArgs false
set_option linter.unusedVariables false
open Go.RowKit

theorem wide_fn (f : FuncId) : Fence.wide.fn f = True := rfl
theorem wide_depth : Fence.wide.depth = none := rfl
attribute [local go_sem] wide_fn wide_depth Oper.semAt_some

def tw (a : Nat) : Nat := if 128 ≤ a then (a * 2 % 256) ^^^ 29 else a * 2
theorem tw_lt {a : Nat} (h : a < 256) : tw a < 256 := by
  unfold tw
  split
  · exact Nat.xor_lt_two_pow (n := 8) (by omega) (by omega)
  · omega

set_option maxRecDepth 100000 in
set_option maxHeartbeats 400000 in
theorem twice_any (a : Nat) (ha : a < 256) (w : World) :
    Calls Try.prog 87 #[.int .u8 (a : Int)] w fun e w' => e = .returned (.int .u8 ((tw a : Nat) : Int)) ∧ w = w' := by
  have h0 : (0 : Int) ≤ (a : Int) := by omega
  have h1 : (a : Int) < 256 := by omega
  by_cases h : 128 ≤ a
  · have e : (((a * 2 % 256) ^^^ 29 : Nat) : Int) = bits .xor .u8 ((a : Int) * 2 % 256) 29 := by
      have := u8_xor_nat (a * 2 % 256) 29 (by omega) (by omega)
      rw [← this]
      congr 1
    have et : tw a = (a * 2 % 256) ^^^ 29 := by unfold tw; rw [if_pos h]
    replace e := hide e
    replace et := hide et
    go_enter Try.func87, Try.ntmps87
    go_wp2
    go_ret
    refine ⟨?_, rfl⟩
    rw [(unhide et), (unhide e)]
    rfl
  · have et : tw a = a * 2 := by unfold tw; rw [if_neg h]
    replace et := hide et
    go_enter Try.func87, Try.ntmps87
    go_wp2
    go_ret
    refine ⟨?_, rfl⟩
    rw [(unhide et)]
    simp

/-- what is yielded: the bits of a, from the lowest on, each with b times that power of 2 -/
def bitsL : Nat → Nat → Nat → List (Bool × Nat)
  | 0, _, _ => []
  | n + 1, a, b => if a = 0 then [] else (a % 2 == 1, b) :: bitsL n (a / 2) (tw b)

/-- only the two captured cells may turn -/
structure StB (Ba Bb : Nat) (A B : World) : Prop where
  os : B.os = A.os
  tape : B.tape = A.tape
  output : B.output = A.output
  size : B.heap.size = A.heap.size
  block : ∀ k, k ≠ Ba → k ≠ Bb → B.heap[k]? = A.heap[k]?
  cells : ∀ (k : Nat) (o : Obj), A.heap[k]? = some o → o.isCells = false → B.heap[k]? = some o

theorem stB_two {Ba Bb : Nat} (A : World) (u v : Value) : StB Ba Bb A ((A.setCell ⟨Ba, 0, none⟩ u).setCell ⟨Bb, 0, none⟩ v).drew :=
  ⟨rfl, rfl, rfl, by simp [World.setCell], fun k h1 h2 => by
    show ((A.setCell ⟨Ba, 0, none⟩ u).setCell ⟨Bb, 0, none⟩ v).heap[k]? = _
    rw [Below.heap_setCell _ _ _ _ h2, Below.heap_setCell _ _ _ _ h1], fun k o hk ho => ((KeepsOthers.setCell A _ u).trans (KeepsOthers.setCell _ _ v)).same k o hk ho⟩

/-- a round keeps the two captured cells -/
structure KpB (Ba Bb : Nat) (A B : World) : Prop where
  size : A.heap.size ≤ B.heap.size
  a : B.heap[Ba]? = A.heap[Ba]?
  b : B.heap[Bb]? = A.heap[Bb]?

def cellNat (w : World) (b : Nat) : Nat := (intOf ((w.cell? ⟨b, 0, none⟩).getD undef)).toNat

set_option maxRecDepth 100000 in
set_option maxHeartbeats 1000000 in
theorem bits1_c (Ba Bb n₀ a b : Nat) (hBa : Ba < n₀) (hBb : Bb < n₀) (hab : Ba ≠ Bb) (ha : a < 256) (hb : b < 256) (w : World)
    (fa : w.cell? ⟨Ba, 0, none⟩ = some (.int .u8 (a : Int))) (fb : w.cell? ⟨Bb, 0, none⟩ = some (.int .u8 (b : Int))) (za : w.frozen? ⟨Ba, 0, none⟩ = false) (zb : w.frozen? ⟨Bb, 0, none⟩ = false) (hn : n₀ ≤ w.heap.size) :
    IterC Try.prog 86 #[.pointer (some ⟨Ba, 0, none⟩), .pointer (some ⟨Bb, 0, none⟩)] (fun x : Bool × Nat => #[.agg #[.bool x.1, .int .u8 (x.2 : Int)]]) (StB Ba Bb) (KpB Ba Bb)
      (fun xs => xs = bitsL 8 a b) (fun pre => pre <+: bitsL 8 a b) 8 w := by
  intro l J Jx W hbW hJ hJx hY h0
  refine callsIn_of_wp Try.func86 rfl trivial ?_ rfl
  simp only [Try.ntmps86, List.size_toArray, List.length_cons, List.length_nil, Nat.reduceAdd, Nat.reduceSub, Array.replicate_succ, Array.replicate_zero, List.push_toArray, List.append_toArray, List.nil_append, List.cons_append]
  gi_wp2
  gi_loopw [] (fun wr => ∃ (n a' b' : Nat) (pre : List (Bool × Nat)), bitsL 8 a b = pre ++ bitsL n a' b' ∧ pre.length + n = 8 ∧ a' < 2 ^ n ∧ a' < 256 ∧ b' < 256 ∧
      wr.cell? ⟨Ba, 0, none⟩ = some (.int .u8 (a' : Int)) ∧ wr.cell? ⟨Bb, 0, none⟩ = some (.int .u8 (b' : Int)) ∧ wr.frozen? ⟨Ba, 0, none⟩ = false ∧ wr.frozen? ⟨Bb, 0, none⟩ = false ∧ n₀ ≤ wr.heap.size ∧ J pre wr) (fun wr => cellNat wr Ba)
  case atStart => exact ⟨8, a, b, [], rfl, rfl, by omega, ha, hb, (hbW.cell (p := ⟨Ba, 0, none⟩) (by show Ba < _; omega)).trans fa, (hbW.cell (p := ⟨Bb, 0, none⟩) (by show Bb < _; omega)).trans fb, (hbW.frozen (p := ⟨Ba, 0, none⟩) (by show Ba < _; omega)).trans za, (hbW.frozen (p := ⟨Bb, 0, none⟩) (by show Bb < _; omega)).trans zb, Nat.le_trans hn hbW.size, h0⟩
  case round =>
    obtain ⟨n, a', b', pre, hpre, hlen, hpow, ha', hb', ga, gb, ya, yb, hsz, hJp⟩ := hrel
    rcases Nat.eq_zero_or_pos a' with rfl | hpos
    · gi_wp2
      go_end0
      refine ⟨⟨_, rfl⟩, .inl ⟨_, rfl, ?_⟩⟩
      rw [hpre]
      have : bitsL n 0 b' = [] := by cases n <;> simp [bitsL]
      rw [this, List.append_nil]
      exact hJp
    · obtain ⟨m, rfl⟩ : ∃ m, n = m + 1 := ⟨n - 1, by cases n with | zero => simp at hpow; omega | succ k => simp⟩
      have hbl : bitsL (m + 1) a' b' = (a' % 2 == 1, b') :: bitsL m (a' / 2) (tw b') := by rw [bitsL, if_neg (by omega)]
      have hand : bits BinOp.and IntKind.u8 (a' : Int) 1 = ((a' % 2 : Nat) : Int) := by
        have := u8_and_nat a' 1 (by omega) (by omega)
        rw [Nat.and_one_is_mod] at this
        exact this
      obtain ⟨fn, tmps, assign, body, hy, hR⟩ := hY pre (a' % 2 == 1, b') wr hJp (by omega) (by rw [hpre, hbl]; exact ⟨bitsL m (a' / 2) (tw b'), by simp⟩)
      dsimp only at hy
      have hbe : (a' % 2 == 1) = ((a' : Int) % 2 == 1) := by
        rw [Bool.eq_iff_iff, beq_iff_eq, beq_iff_eq]
        omega
      rw [hbe] at hy
      gi_wp2
      refine hR.mono ?_
      rintro e W3 (⟨rfl, hJ3, hk3⟩ | ⟨rfl, hJx3⟩)
      · have ga3 : W3.cell? ⟨Ba, 0, none⟩ = some (.int .u8 (a' : Int)) := (World.cell?_of_block hk3.a).trans ga
        have gb3 : W3.cell? ⟨Bb, 0, none⟩ = some (.int .u8 (b' : Int)) := (World.cell?_of_block hk3.b).trans gb
        have ya3 : W3.frozen? ⟨Ba, 0, none⟩ = false := (World.frozen?_of_block hk3.a).trans ya
        have yb3 : W3.frozen? ⟨Bb, 0, none⟩ = false := (World.frozen?_of_block hk3.b).trans yb
        gi_wp2
        gi_region_with (gi_at_call 87; refine (callsIn_wide.2 (twice_any _ hb' _)).mono ?_; rintro e w' ⟨rfl, rfl⟩)
        all_goals
          gi_wp2
          go_roundw
          case rel =>
            refine ⟨m, a' / 2, tw b', pre ++ [(a' % 2 == 1, b')], by rw [hpre, hbl]; simp, by simp; omega, by rw [Nat.pow_succ] at hpow; omega, by omega, tw_lt hb', by go_simp, by go_simp, ?_, ?_, ?_, ?_⟩
            · go_simp
            · go_simp
            · have := hk3.size; simp [World.setCell] at this ⊢; omega
            · rw [hbe]
              exact hJ _ _ _ (stB_two (Ba := Ba) (Bb := Bb) W3 _ _) (hbe ▸ hJ3)
          case measure =>
            unfold cellNat
            go_simp
            simp [intOf]
            omega
      · gi_wp2
        refine bodyPost_ret (results_none rfl _ _ _) rfl ?_
        exact ⟨⟨_, rfl⟩, .inr ⟨_, by rw [hpre, hbl]; exact ⟨bitsL m (a' / 2) (tw b'), by simp⟩, hJx3⟩⟩

theorem bits_any (a b : Nat) (w : World) :
    Calls Try.prog 79 #[.int .u8 (a : Int), .int .u8 (b : Int)] w fun e w' => e = .returned (.func (.func 86) #[] #[.pointer (some ⟨w.heap.size, 0, none⟩), .pointer (some ⟨w.heap.size + 1, 0, none⟩)]) ∧
      w' = (w.alloc (.cells #[.int .u8 (a : Int)] 5)).alloc (.cells #[.int .u8 (b : Int)] 5) := by
  go_enter Try.func79, Try.ntmps79
  go_wp2
  go_ret
  exact ⟨rfl, rfl⟩

def accL (xs : List (Bool × Nat)) : Nat := xs.foldl (fun o p => if p.1 then o ^^^ p.2 else o) 0
theorem accL_snoc (xs : List (Bool × Nat)) (x : Bool × Nat) : accL (xs ++ [x]) = if x.1 then accL xs ^^^ x.2 else accL xs := by simp [accL]
theorem accL_lt {xs : List (Bool × Nat)} (h : ∀ x ∈ xs, x.2 < 256) : accL xs < 256 := by
  suffices ∀ (ys : List (Bool × Nat)) (o : Nat), o < 256 → (∀ x ∈ ys, x.2 < 256) → ys.foldl (fun o p => if p.1 then o ^^^ p.2 else o) o < 256 from this xs 0 (by omega) h
  intro ys
  induction ys with
  | nil => intro o ho _; exact ho
  | cons y ys ih =>
    intro o ho hy
    simp only [List.foldl_cons]
    refine ih _ ?_ (fun x hx => hy x (by simp [hx]))
    split
    · exact Nat.xor_lt_two_pow (n := 8) ho (hy y (by simp))
    · exact ho
theorem bitsL_lt : ∀ (n a b : Nat), b < 256 → ∀ x ∈ bitsL n a b, x.2 < 256
  | 0, _, _, _, x, hx => by simp [bitsL] at hx
  | n + 1, a, b, hb, x, hx => by
    rw [bitsL] at hx
    split at hx
    · simp at hx
    · rcases List.mem_cons.1 hx with rfl | hx
      · exact hb
      · exact bitsL_lt n _ _ (tw_lt hb) x hx
def mulN (a b : Nat) : Nat := accL (bitsL 8 a b)

set_option maxRecDepth 100000 in
set_option maxHeartbeats 1000000 in
theorem mul_any (a b : Nat) (ha : a < 256) (hb : b < 256) (w : World) :
    Calls Try.prog 65 #[.int .u8 (a : Int), .int .u8 (b : Int)] w fun e w' => e = .returned (.int .u8 ((mulN a b : Nat) : Int)) ∧ Below w.heap.size w w' := by
  refine (callsIn_wide (n := 0)).1 ?_
  refine callsIn_of_wp_marks Try.func65 rfl trivial ?_ rfl
  simp only [Try.ntmps65, List.size_toArray, List.length_cons, List.length_nil, Nat.reduceAdd, Nat.reduceSub, Array.replicate_succ, Array.replicate_zero, List.push_toArray, List.append_toArray, List.nil_append, List.cons_append]
  gi_wp2_with fail
  refine (callsIn_wide.2 (bits_any a b _)).mono ?_
  rintro e w1 ⟨rfl, rfl⟩
  gi_wp2_with fail
  obtain ⟨W0, hW0⟩ : ∃ W0, (((w.alloc (Obj.cells #[Value.int IntKind.u8 0] 5)).alloc (Obj.cells #[Value.int IntKind.u8 ↑a] 5)).alloc (Obj.cells #[Value.int IntKind.u8 ↑b] 5)) = W0 := ⟨_, rfl⟩
  rw [hW0]
  have z0 : W0.heap.size = w.heap.size + 3 := by rw [← hW0]; simp
  have bW : Below w.heap.size w W0 := by rw [← hW0]; exact (((Below.refl _ _).alloc (Nat.le_refl _) _).alloc (by simp) _).alloc (by simp; omega) _
  have c0 : Boxed W0 w.heap.size 5 (.int .u8 0) := by rw [← hW0]; exact ((Boxed.new _ _ _).alloc _).alloc _
  have fa : W0.cell? ⟨w.heap.size + 1, 0, none⟩ = some (.int .u8 (a : Int)) := by rw [← hW0]; clear hW0; go_simp
  have fb : W0.cell? ⟨w.heap.size + 1 + 1, 0, none⟩ = some (.int .u8 (b : Int)) := by rw [← hW0]; clear hW0; go_simp
  have za : W0.frozen? ⟨w.heap.size + 1, 0, none⟩ = false := by rw [← hW0]; clear hW0; go_simp
  have zb : W0.frozen? ⟨w.heap.size + 1 + 1, 0, none⟩ = false := by rw [← hW0]; clear hW0; go_simp
  clear hW0
  refine range_c (gf := 86) rfl (fun _ _ => rfl) (bits1_c (w.heap.size + 1) (w.heap.size + 1 + 1) (w.heap.size + 3) a b (by omega) (by omega) (by omega) ha hb W0 fa fb za zb (by omega))
    (fun h k => ⟨Nat.le_trans h.size k.size, k.a.trans h.a, k.b.trans h.b⟩) (fun W l o o' hl h _ _ => ⟨by simp, World.putObj_heap_other (by omega), World.putObj_heap_other (by omega)⟩) (fun A B h => ⟨Nat.le_of_eq h.size.symm, h.cells⟩) (Below.refl _ _) (fun _ => rfl)
    (fun pre W => Below w.heap.size w W ∧ Boxed W w.heap.size 5 (.int .u8 ((accL pre : Nat) : Int))) (fun _ _ _ => False) ?_ ?_ ?_ ?_ ⟨bW, c0⟩ ?_ ?_ ?_
  · rintro pre X Y row ⟨h1, h2⟩ hg hr
    refine ⟨h1.grown hg h1.size (fun k e => ?_), h2.kept hg (fun e => ?_)⟩
    · have := (hr k e).1; omega
    · have := (hr _ e.symm).1; omega
  · intro c s W W' row h; exact h.elim
  · rintro pre X Y hs ⟨h1, h2⟩
    refine ⟨h1.trans ⟨hs.os, hs.tape, hs.output, Nat.le_of_eq hs.size.symm, fun k hk => hs.block k (by omega) (by omega)⟩, ?_⟩
    exact (hs.block _ (by omega) (by omega)).trans h2
  · intro c pre A B _ h; exact h
  · rintro l pre x W ⟨hb1, hbx⟩ hlen hsp hsz
    have d0 := hbx.cell
    have d1 := hbx.frozen
    have hall := bitsL_lt 8 a b hb
    have hx2 : x.2 < 256 := hall x (hsp.subset (by simp))
    have hacc : accL pre < 256 := accL_lt (fun y hy => hall y (hsp.subset (by simp [hy])))
    have hxor : bits BinOp.xor IntKind.u8 ((accL pre : Nat) : Int) (x.2 : Int) = ((accL pre ^^^ x.2 : Nat) : Int) := u8_xor_nat _ _ hacc hx2
    have hsn := accL_snoc pre x
    replace hsn := hide hsn
    gi_wp2_with fail
    refine ⟨KeepsOthers.alloc _ _, ⟨by simp, Below.heap_alloc _ _ _ (by omega), Below.heap_alloc _ _ _ (by omega)⟩, fun X => (Below w.heap.size w X ∧ Boxed X w.heap.size 5 (.int .u8 ((accL pre : Nat) : Int))) ∧ X.heap[W.heap.size]? = some (.cells #[.bool x.1, .int .u8 (x.2 : Int)] 124 (0, 0)), ?_, ⟨⟨hb1.alloc hb1.size _, hbx.alloc _⟩, heap_alloc_new _ _⟩, ?_⟩
    · rintro X Y row ⟨⟨h1, h2⟩, h3⟩ hg hr
      refine ⟨⟨h1.grown hg h1.size (fun k e => ?_), h2.kept hg (fun e => ?_)⟩, (hg.block _ (Array.getElem?_eq_some_iff.1 h3).1 (fun e => ?_)).trans h3⟩
      · have := (hr k e).1; omega
      · have := (hr _ e.symm).1; omega
      · obtain ⟨_, o, ho, hc⟩ := hr _ e.symm
        rw [h3] at ho
        cases ho
        simp [Obj.isCells] at hc
    · rintro W₂ ⟨⟨h1, h2⟩, h3⟩ h4
      have e0 := h2.cell
      have e1 := h2.frozen
      have e2 : W₂.cell? ⟨W.heap.size, 0, none⟩ = some (.bool x.1) := by simp [World.cell?, h3]
      have e3 : W₂.cell? ⟨W.heap.size, 1, none⟩ = some (.int .u8 (x.2 : Int)) := by simp [World.cell?, h3]
      by_cases hx1 : x.1 = true
      · gi_wp2
        refine ⟨KeepsOthers.setCell _ _ _, ⟨by simp [World.setCell], Below.heap_setCell _ _ _ _ (by simp), Below.heap_setCell _ _ _ _ (by simp; omega)⟩, h1.setCell (by simp) _, ?_⟩
        rw [(unhide hsn), if_pos hx1]
        exact h2.set _
      · gi_wp2
        refine ⟨KeepsOthers.refl _, ⟨Nat.le_refl _, rfl, rfl⟩, h1, ?_⟩
        rw [(unhide hsn), if_neg hx1]
        exact h2
  · rintro D xs W hDl rfl ⟨hb1, hbx⟩ hD
    have d0 := hbx.cell
    have d1 := hbx.frozen
    gi_wp2_with fail
    refine ⟨by simp, .inl ⟨_, _, rfl, run_takeDeferred hD, ?_⟩⟩
    exact ⟨_, results_tmp rfl _ _ _, rfl, hb1.trans (belowK_b (w := W0) (by omega) W D _ _ hDl hD rfl rfl)⟩
  · intro D c pre W _ _ h; exact h.elim
end Go.Proofs.Ytibileffpgnjhaa.Base
