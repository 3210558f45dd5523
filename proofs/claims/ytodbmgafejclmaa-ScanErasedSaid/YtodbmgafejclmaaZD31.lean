/-
  Parts of a proof, laid together by a program of mine (pack.py): Si.
-/
import Derived.Test.YtodbmgafejclmaaZD30
namespace Go.Proofs.Ytodbmgafejclmaa.Base
open Go.RowKit Go.Maps Go.Proofs.YtodbmgafejclmaaW.PrintWords Go.Proofs.YtodbmgafejclmaaW.PrintLast
set_option linter.unusedSimpArgs false
set_option linter.unusedVariables false
def SnF (dd : Option (Int × List Ent)) (j : Int) (B1 B2 : Nat) (r : RowD) (w : World) : Prop :=
  match dd with
  | none => r = ⟨0, 0, none, 0, []⟩
  | some q => r.pl = (q.1, j, q.2) ∧ r.es.length ≤ r.c ∧ Sl w B1 B2 19 r.A (r.es.map Ent.arr)
theorem SnF.keep {dd : Option (Int × List Ent)} {j : Int} {B1 B2 : Nat} {r : RowD} {w w' : World} (h : SnF dd j B1 B2 r w) (hk : ∀ k, B1 ≤ k → k < B2 → w'.heap[k]? = w.heap[k]?) : SnF dd j B1 B2 r w' := by
  cases dd with
  | none => exact h
  | some q =>
    obtain ⟨h1, h2, h3⟩ := h
    refine ⟨h1, h2, fun hne => ?_⟩
    obtain ⟨b, o, e, k1, k2, k3⟩ := h3 hne
    exact ⟨b, o, e, k1, k2, fun i hi => (rd_congr (hk b k1 k2) _ _).trans (k3 i hi)⟩
theorem getD_no {l : Array Bool} {i : Nat} (h : l.getD i true = false) (h' : l.getD i false = true) : False := by
  rcases Nat.lt_or_ge i l.size with hi | hi
  · simp [hi] at h h'
    rw [h] at h'
    cases h'
  · simp [Array.getElem?_eq_none hi] at h
def snA (l Bt Bs Br : Nat) (k j : Int) (u4 u23 u24 u25 u26 u27 u28 u29 u30 u31 : Value) (x6 x7 x13 x14 x15 x16 x17 x18 x19 x20 x21 x22 : Value) : Act := { tmps := #[.func (.yield l) #[] #[], .pointer (some ⟨Bt, 0, none⟩), .pointer (some ⟨Bs, 0, none⟩), .pointer (some ⟨Br, 0, none⟩), u4, .int .i64 j, x6, x7, .int .i64 k, .int .i64 k, .int .i64 j, .bool true, .int .i64 j, x13, x14, x15, x16, x17, x18, x19, x20, x21, x22, u23, u24, u25, u26, u27, u28, u29, u30, u31], defers := [] }
structure SnI (wr : World) (s j er : Int) (dd : Option (Int × List Ent)) (ba bo Tl c nn c0 : Nat) (A0 : Option Addr) (l : Array Bool) (x6 x7 x13 x14 x15 x16 x17 x18 x19 x20 x21 x22 : Value) (r : RowD) (B1 B2 p : Nat) (v0 v1 v2 : Value) (w : World) : Prop where
  b : Below wr.heap.size wr w
  l0 : l.getD 0 false = true → x14 = .int .i64 s
  l1 : l.getD 1 false = true → x15 = .int .i64 j
  l2 : l.getD 2 false = true → x16 = .slice (some ⟨ba, bo, none⟩) Tl c
  l3 : l.getD 3 false = true → x17 = .int .i64 j
  l4 : l.getD 4 false = true → x18 = .pointer (some ⟨ba, bo + j.toNat, none⟩)
  l5 : l.getD 5 false = true → x19 = .slice A0 nn c0
  l6 : l.getD 6 false = true → x20 = .tuple #[.agg r.arr, .int .i64 er] ∧ wr.heap.size ≤ B1 ∧ B1 ≤ B2 ∧ B2 ≤ w.heap.size ∧ SnF dd j B1 B2 r w
  l7 : l.getD 7 false = true → x13 = .tuple #[.agg r.arr, .int .i64 er]
  l8 : l.getD 8 false = true → x21 = .agg r.arr
  l9 : l.getD 9 false = true → x22 = .int .i64 er
  l12 : l.getD 12 false = true → x7 = .int .i64 er
  l10 : l.getD 10 false = true → x6 = .pointer (some ⟨p, 0, none⟩) ∧ wr.heap.size ≤ p ∧ w.heap[p]? = some (.cells #[v0, v1, v2] 39 (0, 0))
  sep : l.getD 6 false = true → l.getD 10 false = true → p < B1 ∨ B2 ≤ p
  l11 : l.getD 11 false = true → #[v0, v1, v2] = r.arr
  c7 : l.getD 7 false = true → l.getD 6 false = true
  c8 : l.getD 8 false = true → l.getD 6 false = true
  c11 : l.getD 11 false = true → l.getD 6 false = true
  d11 : l.getD 11 false = true → l.getD 10 false = true
theorem SnI.below {wr : World} {s j er : Int} {dd : Option (Int × List Ent)} {ba bo Tl c nn c0 : Nat} {A0 : Option Addr} {l : Array Bool} {x6 x7 x13 x14 x15 x16 x17 x18 x19 x20 x21 x22 : Value} {r : RowD} {B1 B2 p : Nat} {v0 v1 v2 : Value} {w w' : World} (h : SnI wr s j er dd ba bo Tl c nn c0 A0 l x6 x7 x13 x14 x15 x16 x17 x18 x19 x20 x21 x22 r B1 B2 p v0 v1 v2 w) (hb : Below w.heap.size w w') : SnI wr s j er dd ba bo Tl c nn c0 A0 l x6 x7 x13 x14 x15 x16 x17 x18 x19 x20 x21 x22 r B1 B2 p v0 v1 v2 w' :=
  { h with
    b := h.b.trans (hb.mono h.b.size)
    l6 := fun hl => by obtain ⟨h1, h2, h3, h4, h5⟩ := h.l6 hl; exact ⟨h1, h2, h3, Nat.le_trans h4 hb.size, h5.keep (fun k _ hk => hb.block k (by omega))⟩
    l10 := fun hl => by obtain ⟨h1, h2, h3⟩ := h.l10 hl; exact ⟨h1, h2, (hb.block p (Array.getElem?_eq_some_iff.1 h3).1).trans h3⟩ }
end Go.Proofs.Ytodbmgafejclmaa.Base
