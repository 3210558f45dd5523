/-
  Parts of a proof, laid together by a program of mine (pack.py): Ro.
-/
import Derived.Test.YtodbmgafejclmaaZD24
namespace Go.Proofs.Ytodbmgafejclmaa.Base
open Go.RowKit Go.Maps Go.Proofs.YtodbmgafejclmaaW.PrintWords Go.Proofs.YtodbmgafejclmaaW.PrintLast
set_option linter.unusedSimpArgs false
set_option linter.unusedVariables false
structure RowD where
  ser : Int
  at_ : Int
  A : Option Addr
  c : Nat
  es : List Ent
def RowD.arr (r : RowD) : Array Value := #[.int .i64 r.ser, .int .i64 r.at_, .slice r.A r.es.length r.c]
abbrev RowP := Int × Int × List Ent
def RowD.pl (r : RowD) : RowP := (r.ser, r.at_, r.es)
/-- a row's slots, in memory -/
def RowOk (w : World) (base : Nat) (t : RowD) : Prop := t.es.length ≤ t.c ∧ t.es.length ≤ 1000 ∧ 0 < t.es.length ∧ Sl w base w.heap.size 19 t.A (t.es.map Ent.arr)
theorem RowOk.lt {w : World} {base : Nat} {t : RowD} (h : RowOk w base t) : ∃ b o, t.A = some ⟨b, o, none⟩ ∧ base ≤ b ∧ b < w.heap.size := by
  obtain ⟨b, o, e, h1, h2, _⟩ := h.2.2.2.pos (by rw [List.length_map]; exact h.2.2.1)
  exact ⟨b, o, e, h1, h2⟩
theorem RowOk.keep {w w' : World} {base : Nat} {t : RowD} (h : RowOk w base t) (hz : w.heap.size ≤ w'.heap.size) (hk : ∀ a, t.A = some a → w'.heap[a.block]? = w.heap[a.block]?) : RowOk w' base t :=
  ⟨h.1, h.2.1, h.2.2.1, (h.2.2.2.keep hk).more hz⟩
theorem RowOk.below {w w' : World} {base : Nat} {t : RowD} (h : RowOk w base t) (hb : Below w.heap.size w w') : RowOk w' base t :=
  ⟨h.1, h.2.1, h.2.2.1, (h.2.2.2.below hb).more hb.size⟩
theorem RowOk.less {w : World} {base b2 : Nat} {t : RowD} (h : RowOk w base t) (hb : b2 ≤ base) : RowOk w b2 t :=
  ⟨h.1, h.2.1, h.2.2.1, h.2.2.2.less hb⟩
/-- rows that the call owns; their slots lie elsewhere -/
def Rn (w : World) (base : Nat) (v : Value) (T : List RowD) : Prop :=
  Ow w base 39 3 v (T.map RowD.arr) ∧ ∀ t ∈ T, RowOk w base t ∧ ∀ a, t.A = some a → some a.block ≠ v.ownBlock
theorem Rn.nil (w : World) (base : Nat) : Rn w base (.slice none 0 0) [] := ⟨Ow.nil _ _ _ _, fun t ht => by simp at ht⟩
theorem Rn.below {w w' : World} {base : Nat} {v : Value} {T : List RowD} (h : Rn w base v T) (hb : Below w.heap.size w w') : Rn w' base v T :=
  ⟨h.1.below hb (fun g e => (h.1.lt g e).2), fun t ht => ⟨(h.2 t ht).1.below hb, (h.2 t ht).2⟩⟩
theorem Rn.setCell {w : World} {base : Nat} {v : Value} {T : List RowD} (h : Rn w base v T) {p : Addr} (hp : p.block < base) (u : Value) : Rn (w.setCell p u) base v T :=
  ⟨h.1.setCell hp u, fun t ht => ⟨(h.2 t ht).1.keep (by simp [World.setCell]) (fun a ha => by
    obtain ⟨b, o, e, h1, _⟩ := (h.2 t ht).1.lt
    rw [ha] at e; injection e with e; subst e
    exact Below.heap_setCell _ _ _ _ (by show b ≠ p.block; omega)), (h.2 t ht).2⟩⟩
theorem RowD.sized (T : List RowD) : Sized 3 (T.map RowD.arr) := fun x hx => by obtain ⟨p, _, rfl⟩ := List.mem_map.1 hx; rfl
theorem RowD.ones (T : List RowD) : Ones (T.map RowD.arr) := fun x hx v hv => by
  obtain ⟨p, _, rfl⟩ := List.mem_map.1 hx
  simp only [RowD.arr, List.mem_cons, List.not_mem_nil, or_false] at hv
  rcases hv with rfl | rfl | rfl <;> rfl
set_option maxRecDepth 100000 in
theorem info_row3 : (Try.prog.info? 39).map (fun i => (i.zero, i.size, i.bytes)) = some (some (.agg #[.int .i64 0, .int .i64 0, .slice none 0 0]), 3, 40) := by kernel_rfl
/-- rows behind rows -/
theorem Rn.app (w : World) (base n : Nat) (v : Value) (T : List RowD) (h : Rn w base v T) (hn : T.length = n) (ts : List RowD) (m : Nat) (hm : ts.length = m) (ad : Addr) (c : Nat) (hc : ∀ j u, (flat (ts.map RowD.arr))[j]? = some u → w.cell? (ad.add j) = some u)
    (hts : ∀ t ∈ ts, RowOk w base t ∧ ∀ a, t.A = some a → some a.block ≠ v.ownBlock) (hsm : n + m ≤ 100000) (hbase : base ≤ w.heap.size) (ty : TypeId) :
    ∃ A' c' w', (Builtin.append_ #[29, 29] ty #[v, .slice (some ad) m c]).run Try.prog w = .ok (.slice A' (n + m) c') w' ∧ Rn w' base (.slice A' (n + m) c') (T ++ ts) ∧ w.grownBy w' v.ownBlock ∧ n + m ≤ c' := by
  subst hm
  obtain ⟨i0, hi0, hz0, hz1, hz2⟩ := info_parts info_row3
  have hown' : w.ownsRow base 39 3 v n (flat (T.map RowD.arr)) := by have := h.1; unfold Ow at this; rw [List.length_map, hn] at this; exact this
  obtain ⟨v', w', hrun, h2, h3, _, h5⟩ := run_append_own_at (P := Try.prog) w base 29 ty 39 i0 _ 3 40 Try.underlying29 hi0 hz0 hz1 hz2 rfl (by omega) v n (flat (T.map RowD.arr)) hown' ad ts.length c (flat (ts.map RowD.arr)) (by rw [flat_len (RowD.sized ts), List.length_map])
    hc (RowD.ones ts).flat_all (by unfold maxLen; omega) (by omega) hbase
  have ho' : Ow w' base 39 3 v' ((T ++ ts).map RowD.arr) := by
    unfold Ow
    rw [List.length_map, List.length_append, hn, List.map_append, flat_append]
    exact h2
  obtain ⟨A', c', hv, hc', _⟩ := ho'.form
  rw [List.length_map, List.length_append, hn] at hv hc'
  subst hv
  refine ⟨A', c', w', hrun, ⟨ho', fun t ht => ?_⟩, h3, hc'⟩
  have hk : RowOk w base t ∧ ∀ a, t.A = some a → some a.block ≠ v.ownBlock := by
    rcases List.mem_append.1 ht with ht | ht
    · exact h.2 t ht
    · exact hts t ht
  have hlt : ∀ a, t.A = some a → a.block < w.heap.size := fun a ha => by
    obtain ⟨b, o, e, _, h1⟩ := hk.1.lt
    rw [ha] at e; injection e with e; subst e
    exact h1
  refine ⟨hk.1.keep h3.size (fun a ha => h3.block _ (hlt a ha) (hk.2 a ha)), fun a ha e => ?_⟩
  rcases h5 with h5 | h5
  · exact hk.2 a ha (e.trans h5)
  · rw [h5] at e
    injection e with e
    have := hlt a ha
    omega
theorem Rn.one {w : World} {b : Nat} {r : RowD} (hc : w.heap[b]? = some (.cells r.arr 39 (0, 0))) : ∀ j u, (flat ([r].map RowD.arr))[j]? = some u → w.cell? ((⟨b, 0, none⟩ : Addr).add j) = some u := fun j u hu => by
  rw [Addr.add_mid]
  simp only [Nat.zero_add]
  have : r.arr.toList[j]? = some u := by simpa [flat] using hu
  simp only [World.cell?, hc]
  simpa using this
abbrev PR := Option Addr × Nat × List Pg
def PR.cell (r : PR) : Value := .slice r.1 r.2.2.length r.2.1
def PR.arr (r : PR) : Array Value := #[r.cell]
def PrOk (w : World) (r : PR) : Prop := r.2.2.length ≤ r.2.1 ∧ r.2.2.length ≤ 1000 ∧ (∀ p ∈ r.2.2, I64 p.1) ∧ Sl w 0 w.heap.size 2 r.1 (r.2.2.map Pg.arr) ∧ PgsAt w r.2.2
def PrsAt (w : World) (T : List PR) : Prop := ∀ r ∈ T, PrOk w r
theorem PrOk.below {w w' : World} {r : PR} (h : PrOk w r) (hb : Below w.heap.size w w') : PrOk w' r :=
  ⟨h.1, h.2.1, h.2.2.1, (h.2.2.2.1.below hb).more hb.size, h.2.2.2.2.below hb⟩
theorem PrsAt.below {w w' : World} {T : List PR} (h : PrsAt w T) (hb : Below w.heap.size w w') : PrsAt w' T := fun r hr => (h r hr).below hb
/-- is a row started? -/
def stB (ps : List Pg) : Bool := ps.any fun p => decide (p.1 ≠ 0)
/-- the last one of a number that is so -/
def lastN (f : Nat → Bool) : Nat → Int
  | 0 => -1
  | n + 1 => if f n = true then (n : Int) else lastN f n
theorem lastN_lt (f : Nat → Bool) : ∀ n, -1 ≤ lastN f n ∧ lastN f n < n
  | 0 => by simp [lastN]
  | n + 1 => by
    have := lastN_lt f n
    unfold lastN
    split <;> omega
def zPR : PR := (none, 0, [])
def pgsOf (T : List PR) (i : Nat) : List Pg := (T.getD i zPR).2.2
def lastS (T : List PR) : Int := lastN (fun i => stB (pgsOf T i)) T.length
/-- the rows of the first places that can be read -/
noncomputable def soundR (s : Int) (T : List PR) : Nat → List RowP
  | 0 => []
  | n + 1 => soundR s T n ++ (match (decP s n (pgsOf T n) 1).2 with | some r => [(r.1, (n : Int), r.2)] | none => [])
noncomputable def lookP (s : Int) (T : List PR) : Int × List RowP :=
  if lastS T < 0 then (0, []) else (if (decP s ((T.length : Int) - 1) (pgsOf T (T.length - 1)) 1).1 = 0 then 2 else 1, soundR s T (lastS T).toNat)
theorem soundR_pre (s : Int) (T : List PR) : ∀ {j n : Nat}, j ≤ n → soundR s T j <+: soundR s T n
  | j, 0, h => by obtain rfl : j = 0 := by omega
                  exact List.prefix_refl _
  | j, n + 1, h => by
    by_cases e : j = n + 1
    · subst e; exact List.prefix_refl _
    · exact (soundR_pre s T (show j ≤ n by omega)).trans (List.prefix_append _ _)
theorem soundR_len (s : Int) (T : List PR) : ∀ n, (soundR s T n).length ≤ n
  | 0 => by simp [soundR]
  | n + 1 => by
    have := soundR_len s T n
    unfold soundR
    rw [List.length_append]
    split <;> simp <;> omega
end Go.Proofs.Ytodbmgafejclmaa.Base
