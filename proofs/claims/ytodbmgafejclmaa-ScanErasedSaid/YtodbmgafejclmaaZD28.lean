/-
  Parts of a proof, laid together by a program of mine (pack.py): Ba.
-/
import Derived.StillTailTactics
import Derived.RegionIn
import Derived.Stop.RegionWithIn
import Derived.Test.YtodbmgafejclmaaZD27
namespace Go.Proofs.Ytodbmgafejclmaa.Base
open Go.RowKit Go.Maps Go.Proofs.YtodbmgafejclmaaW.PrintWords Go.Proofs.YtodbmgafejclmaaW.PrintLast
set_option linter.unusedSimpArgs false
set_option linter.unusedVariables false
theorem wide_fn' (f : FuncId) : Fence.wide.fn f = True := rfl
theorem wide_depth' : Fence.wide.depth = none := rfl
attribute [local go_sem] wide_fn' wide_depth' Oper.semAt_some
/-- all that was there stays, but for blocks that someone owns, and for what is no cells -/
structure KpO (own : Nat → Prop) (A B : World) : Prop where
  size : A.heap.size ≤ B.heap.size
  same : ∀ k o, A.heap[k]? = some o → o.isCells = true → ¬ own k → B.heap[k]? = some o
theorem KpO.refl (own : Nat → Prop) (A : World) : KpO own A A := ⟨Nat.le_refl _, fun _ _ h _ _ => h⟩
theorem KpO.trans {own : Nat → Prop} {A B C : World} (h : KpO own A B) (k : KpO own B C) : KpO own A C :=
  ⟨Nat.le_trans h.size k.size, fun j o hj ho hn => k.same j o (h.same j o hj ho hn) ho hn⟩
theorem KpO.of_below {own : Nat → Prop} {A B : World} (h : Below A.heap.size A B) : KpO own A B :=
  ⟨h.size, fun k o hk _ _ => (h.block k (Array.getElem?_eq_some_iff.1 hk).1).trans hk⟩
theorem KpO.rd {own : Nat → Prop} {A B : World} (h : KpO own A B) {b o n : Nat} {cs : Array Value} (hr : rd A b o n = some cs) (hn : ¬ own b) : Base.rd B b o n = some cs := by
  unfold Base.rd at hr ⊢
  cases hb : A.heap[b]? with
  | none => rw [hb] at hr; cases hr
  | some x =>
    rw [hb] at hr
    cases x with
    | cells c e fr => rw [h.same b _ hb rfl hn]; exact hr
    | _ => cases hr
theorem KpO.put {own : Nat → Prop} {W : World} {l : Nat} {o o' : Obj} (h : W.heap[l]? = some o) (h2 : o.isCells = false) : KpO own W (W.putObj l o') :=
  ⟨by simp [World.putObj], fun k o2 hk hc2 _ => (World.putObj_heap_other (fun e => by subst e; rw [h] at hk; cases hk; rw [h2] at hc2; cases hc2)).trans hk⟩
theorem results_c1 {P : Program} {fn : Func} {p : Tmp} {t : TypeId} {k : IntKind} (hf : fn.results = #[.cell p t]) (hu : P.underlying t = some (.int k))
    {w : World} {tmps : Array Value} {a : Addr} {v : Value} (hp : tmps.getD p undef = .pointer (some a)) (h : w.cell? a = some v) : (results fn tmps).run P w = .ok v w := by
  have hp' : tmps[p]?.getD undef = .pointer (some a) := by simpa using hp
  simp [results, hf, hp', asAddr, loadVar, isAgg, run_underlying hu, TypeDesc.isRow, load, go_sem]; unfold Sem.run; simp [h]
/-- the places from the last one on, so many -/
def backL (T : List PR) (k : Nat) : List (Int × PR) := (List.range k).map fun (j : Nat) => ((((T.length - 1 - j : Nat)) : Int), T.getD (T.length - 1 - j) zPR)
theorem backL_len (T : List PR) (k : Nat) : (backL T k).length = k := by simp [backL]
theorem backL_succ (T : List PR) (k : Nat) : backL T (k + 1) = backL T k ++ [(((T.length - 1 - k : Nat) : Int), T.getD (T.length - 1 - k) zPR)] := by simp [backL, List.range_succ]
theorem backL_pre (T : List PR) {j n : Nat} (h : j ≤ n) : backL T j <+: backL T n := by
  unfold backL
  refine ⟨(List.range' j (n - j)).map fun (j : Nat) => ((((T.length - 1 - j : Nat)) : Int), T.getD (T.length - 1 - j) zPR), ?_⟩
  rw [← List.map_append, List.range_eq_range', List.range_eq_range']
  congr 1
  have := List.range'_append_1 (s := 0) (m := j) (n := n - j)
  rw [Nat.zero_add] at this
  rw [this]
  congr 1
  omega
theorem pre_take {α : Type} {a b : List α} (h : a <+: b) : a = b.take a.length := by
  obtain ⟨c, rfl⟩ := h
  simp
theorem backL_of {T : List PR} {pre : List (Int × PR)} {n : Nat} (h : pre <+: backL T n) : pre = backL T pre.length := by
  have h1 := h.length_le
  rw [backL_len] at h1
  have h2 := pre_take h
  have h3 := pre_take (backL_pre T h1)
  rw [backL_len] at h3
  rw [h2, ← h3]
  simp [backL_len, Nat.min_eq_left h1]
set_option maxRecDepth 100000 in
theorem backward_any (A : Option Addr) (l c : Nat) (w : World) :
    Calls Try.prog 29 #[.slice A l c] w fun e w' => e = .returned (.func (.func 42) #[] #[.pointer (some ⟨w.heap.size, 0, none⟩)]) ∧
      w' = w.alloc (.cells #[.slice A l c] 27) := by
  go_enter Try.func29, Try.ntmps29
  go_wp2
  go_ret
  exact ⟨rfl, rfl⟩
set_option maxRecDepth 100000 in
set_option maxHeartbeats 2000000 in
theorem back1_c (Bl m₀ n₀ : Nat) (A : Option Addr) (c : Nat) (T : List PR) (hBl : Bl < n₀) (hm₀ : m₀ ≤ n₀) (hsm : T.length ≤ 100000) (w : World)
    (fl : w.heap[Bl]? = some (.cells #[.slice A T.length c] 27 (0, 0))) (hs : Sl w 0 m₀ 1 A (T.map PR.arr)) (h0 : n₀ ≤ w.heap.size) :
    IterC Try.prog 42 #[.pointer (some ⟨Bl, 0, none⟩)] (fun x : Int × PR => #[.int .i64 x.1, x.2.cell]) (fun A B => Below A.heap.size A B) (KpO (fun _ => False))
      (fun xs => xs = backL T T.length) (fun pre => pre <+: backL T T.length) T.length w := by
  intro l J Jx W hbW hJ hJx hY hJ0
  refine callsIn_of_wp Try.func42 rfl trivial ?_ rfl
  simp only [Try.ntmps42, List.size_toArray, List.length_cons, List.length_nil, Nat.reduceAdd, Nat.reduceSub, Array.replicate_succ, Array.replicate_zero, List.push_toArray, List.append_toArray, List.nil_append, List.cons_append]
  have hbW0 : Below n₀ w W := hbW.mono h0
  have fW := (hbW0.block Bl hBl).trans fl
  have fWc : W.cell? ⟨Bl, 0, none⟩ = some (.slice A T.length c) := by simp [World.cell?, fW]
  have hsW : Sl W 0 m₀ 1 A (T.map PR.arr) := hs.below (hbW0.mono hm₀)
  obtain ⟨n, hn⟩ : ∃ n, n = T.length := ⟨_, rfl⟩
  have hJ0' : J (backL T (n - n)) W := by rw [Nat.sub_self]; exact hJ0
  have hsm' : n ≤ 100000 := by omega
  have hw0 : IntKind.i64.wrap ((n : Int) - 1) = (n : Int) - 1 := IntWalk.i64_in _ (by omega)
  rw [← hn] at fW fWc hY
  replace fW := hide fW
  replace fl := hide fl
  replace hn := hide hn
  clear hs hJ0
  gi_wp2
  gi_loopw [3] (fun s3 wr => ∃ (q : Nat) (x : Int), q ≤ n ∧ s3 = .int .i64 x ∧ Hid (x = (q : Int) - 1) ∧ J (backL T (n - q)) wr ∧ KpO (fun _ => False) W wr) (fun s3 _ => (intOf s3 + 1).toNat)
  case atStart => exact ⟨n, _, Nat.le_refl _, rfl, hide (by first | exact hw0 | rfl | simp [hw0]), hJ0', KpO.refl _ _⟩
  case round =>
    clear hJ0' hw0
    obtain ⟨q, x, hq, rfl, hx, hJp, hk⟩ := hrel
    have hz := hk.size
    have fl2 : wr.cell? ⟨Bl, 0, none⟩ = some (.slice A n c) := by
      have := hk.same Bl _ (unhide fW) rfl (fun h => h)
      simp [World.cell?, this]
    cases q with
    | zero =>
      obtain rfl : x = -1 := by have := unhide hx; omega
      gi_wp2
      go_end0
      refine ⟨⟨_, rfl⟩, .inl ⟨_, rfl, ?_⟩⟩
      rw [← unhide hn]
      exact hJp
    | succ p =>
      obtain rfl : x = (p : Int) := by have := unhide hx; omega
      have hp0 : (0 : Int) ≤ p := by omega
      have hpn : (p : Int) < n := by omega
      have hpT : p < T.length := by have := unhide hn; omega
      obtain ⟨b, o, rfl, _, hbl, hr⟩ := hsW.at_ (k := p) (by simpa using hpT)
      simp only [List.getElem_map] at hr
      have hr2 := hk.rd hr (fun h => h)
      obtain ⟨r, hrT⟩ : ∃ r, r = T[p] := ⟨_, rfl⟩
      rw [← hrT] at hr2
      have c0 : wr.cell? ⟨b, o + p, none⟩ = some r.cell := by have := rd_cell hr2 0 (by omega); rw [Nat.mul_one, Nat.add_zero] at this; exact this
      have hsuc : backL T (n - p) = backL T (n - (p + 1)) ++ [((p : Int), r)] := by
        have hnn := unhide hn
        rw [show n - p = n - (p + 1) + 1 from by omega, backL_succ, show T.length - 1 - (n - (p + 1)) = p from by omega]
        congr 3
        rw [hrT, List.getD_eq_getElem?_getD, List.getElem?_eq_getElem hpT]; rfl
      have hpre : backL T (n - (p + 1)) ++ [((p : Int), r)] <+: backL T T.length := by rw [← hsuc]; exact backL_pre T (by have := unhide hn; omega)
      have hw1 : IntKind.i64.wrap ((p : Int) - 1) = (p : Int) - 1 := IntWalk.i64_in _ (by omega)
      obtain ⟨fn1, tmps, assign, body, hy, hR⟩ := hY (backL T (n - (p + 1))) ((p : Int), r) wr hJp (by rw [backL_len]; omega) (by have h9 := hpre; rw [← unhide hn] at h9; exact h9)
      clear hr hr2 hrT hx
      replace hsuc := hide hsuc
      replace hpre := hide hpre
      obtain ⟨v, hv⟩ : ∃ v, v = r.cell := ⟨_, rfl⟩
      simp only [← hv] at hy c0
      clear hv
      gi_wp2
      refine hR.mono ?_
      rintro e W3 (⟨rfl, hJ3, hk3⟩ | ⟨rfl, hJx3⟩)
      · gi_wp2
        go_roundw
        case rel => exact ⟨p, _, by omega, rfl, hide (by first | exact hw1 | rfl | simp [hw1]), by rw [unhide hsuc]; exact hJ3, hk.trans hk3⟩
        case measure => simp [intOf, hw1]
      · gi_wp2
        refine bodyPost_ret (results_none rfl _ _ _) rfl ?_
        exact ⟨⟨_, rfl⟩, .inr ⟨_, unhide hpre, hJx3⟩⟩
end Go.Proofs.Ytodbmgafejclmaa.Base
