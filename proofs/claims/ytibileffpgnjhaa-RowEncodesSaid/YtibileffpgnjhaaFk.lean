/-
  What the parities of a row answer: the program's and the document's.
-/
import Derived.Test.YtibileffpgnjhaaRn
import Derived.Test.YtibileffpgnjhaaRr
import Derived.Test.YtibileffpgnjhaaRe3
import Derived.Test.YtibileffpgnjhaaRk
import Derived.Test.YtibileffpgnjhaaGo
import Derived.Maps.OwnSet
import Derived.Test.YtibileffpgnjhaaWLast
import Derived.Maps.OwnOps
import Derived.Test.YtibileffpgnjhaaRw
import Derived.Test.YtibileffpgnjhaaRj
import Derived.Test.YtibileffpgnjhaaPRqx0
import Derived.Test.YtibileffpgnjhaaFx
import Derived.Lib.Hide
import Derived.Lib.Bytes
import Derived.ProofKit
import Derived.OpenShut
import Derived.Carry
import Derived.Deep.Slices
import Derived.ChangeSame
namespace Go.Proofs.Ytibileffpgnjhaa.Base
open Go.RowKit Go.Proofs.YtibileffpgnjhaaW.PrintWords
open Go.Proofs.Ytibileffpgnjhaa.Fld Go.Proofs.Ytibileffpgnjhaa.Pl
set_option linter.unusedSimpArgs false
set_option linter.unusedVariables false
theorem parC_rs (L : List (List Int)) (n : Nat) (hn : ∀ r ∈ L, r.length = n) (hL : ∀ r ∈ L, Bytes r) (h2 : 2 ≤ L.length) (h14 : L.length ≤ 14) (hn2 : n ≤ 281474976710656) : ParC 30 L (sumP L n) (sumQ L n) := by
  intro A c w hC hc
  obtain ⟨K, hK⟩ := parity_ev L n hn hL h2 h14 hn2
  refine (Go.Proofs.Ytibileffpgnjhaa.PRq.rs_Parity.calls K A c L _ _ w hC hc (hK K (Nat.le_refl _))).mono ?_
  rintro e w' ⟨v0, v1, rfl, h0, h1, hb⟩
  exact ⟨v0, v1, rfl, ⟨_, h0⟩, ⟨_, h1⟩, hb⟩
theorem parC_ref (L : List (List Int)) (n : Nat) (hn : ∀ r ∈ L, r.length = n) (hL : ∀ r ∈ L, Bytes r) (h2 : 2 ≤ L.length) (h14 : L.length ≤ 14) (hn2 : n ≤ 281474976710656) : ParC 34 L (sumP L n) (sumQ L n) := by
  intro A c w hC hc
  obtain ⟨K, hK⟩ := Go.Proofs.Ytibileffpgnjhaa.Rp.refpar_ev L n hn hL h2 h14 hn2
  refine (Go.Proofs.Ytibileffpgnjhaa.PRr.ramekinref5_Parity.calls K A c L _ _ w hC hc (hK K (Nat.le_refl _))).mono ?_
  rintro e w' ⟨v0, v1, rfl, h0, h1, hb⟩
  exact ⟨v0, v1, rfl, ⟨_, h0⟩, ⟨_, h1⟩, hb⟩
theorem bytesE_byt (h0 h1 h2 h3 : Int) (e : Ent) (he : e.Wf) : Bytes (bytesE h0 h1 h2 h3 e) := by
  have hm : ∀ x : Int, Byt (x % 256) := fun x => ⟨Int.emod_nonneg _ (by omega), Int.emod_lt_of_pos _ (by omega)⟩
  have hle : ∀ (n : Int) (k : Nat), ∀ x ∈ leI n k, Byt x := fun n k x hx => by
    obtain ⟨i, _, rfl⟩ := List.mem_map.1 hx
    exact hm _
  intro x hx
  simp only [bytesE, List.mem_append, List.mem_singleton, List.mem_cons, List.not_mem_nil, or_false] at hx
  rcases hx with (((((((hx | rfl) | rfl) | rfl) | rfl) | hx) | hx) | hx) | (rfl | rfl | rfl | rfl)
  · exact hle _ _ _ hx
  · exact hm _
  · exact hm _
  · exact hm _
  · exact hm _
  · exact hle _ _ _ hx
  · exact hle _ _ _ hx
  · obtain ⟨i, rfl⟩ := List.mem_ofFn.1 hx
    exact he.2.2.2 i
  all_goals exact ⟨by omega, by omega⟩
theorem wf_zero : zeroE.Wf := ⟨by decide, by decide, by decide, fun _ => ⟨Int.le_refl _, by show (0 : Int) < 256; omega⟩⟩
theorem getD_wf {es : List Ent} (h : ∀ e ∈ es, e.Wf) (i : Nat) : (es.getD i zeroE).Wf := by
  rcases Nat.lt_or_ge i es.length with h1 | h1
  · rw [List.getD_eq_getElem?_getD, List.getElem?_eq_getElem h1]; exact h _ (List.getElem_mem h1)
  · rw [List.getD_eq_getElem?_getD, List.getElem?_eq_none h1]; exact wf_zero
theorem rowsE_48 (s u a : Int) (es : List Ent) (n : Nat) : ∀ r ∈ rowsE s u a es n, r.length = 48 := by
  intro r hr
  obtain ⟨i, _, rfl⟩ := List.mem_map.1 hr
  exact bytesE_len _ _ _ _ _
theorem rowsE_byt (s u a : Int) (es : List Ent) (n : Nat) (h : ∀ e ∈ es, e.Wf) : ∀ r ∈ rowsE s u a es n, Bytes r := by
  intro r hr
  obtain ⟨i, _, rfl⟩ := List.mem_map.1 hr
  exact bytesE_byt _ _ _ _ _ (getD_wf h i)
/-- a row's rows and their parities -/
def fullE (s u a : Int) (es : List Ent) (n : Nat) : List (List Int) := rowsE s u a es n ++ [sumP (rowsE s u a es n) 48, sumQ (rowsE s u a es n) 48]
theorem par_rs (s u a : Int) (es : List Ent) (n : Nat) (h : ∀ e ∈ es, e.Wf) (h2 : 2 ≤ n) (h14 : n ≤ 14) : ParC 30 (rowsE s u a es n) (sumP (rowsE s u a es n) 48) (sumQ (rowsE s u a es n) 48) :=
  parC_rs _ 48 (rowsE_48 s u a es n) (rowsE_byt s u a es n h) (by rw [rowsE_len]; exact h2) (by rw [rowsE_len]; exact h14) (by omega)
theorem par_ref (s u a : Int) (es : List Ent) (n : Nat) (h : ∀ e ∈ es, e.Wf) (h2 : 2 ≤ n) (h14 : n ≤ 14) : ParC 34 (rowsE s u a es n) (sumP (rowsE s u a es n) 48) (sumQ (rowsE s u a es n) 48) :=
  parC_ref _ 48 (rowsE_48 s u a es n) (rowsE_byt s u a es n h) (by rw [rowsE_len]; exact h2) (by rw [rowsE_len]; exact h14) (by omega)
end Go.Proofs.Ytibileffpgnjhaa.Base
/-
  A row, made or refused: the program and the document answer alike.
-/
namespace Go.Proofs.Ytibileffpgnjhaa.Base
open Go.RowKit Go.Proofs.YtibileffpgnjhaaW.PrintWords
open Go.Proofs.Ytibileffpgnjhaa.Fld Go.Proofs.Ytibileffpgnjhaa.Pl
set_option linter.unusedSimpArgs false
set_option linter.unusedVariables false
/-- numbers that a row may have -/
def NumOk (d s u a : Int) (l : Nat) : Prop := 6 ≤ d ∧ d ≤ 8 ∧ 1 ≤ s ∧ s ≤ 1099511627776 ∧ 0 ≤ u ∧ u ≤ 255 ∧ 0 ≤ a ∧ a ≤ 255 ∧ (l : Int) ≤ d - 2
/-- what a call of Encode answers -/
def EncR (d s u a : Int) (es : List Ent) (w : World) (x : Ending) (w' : World) : Prop :=
  ((NumOk d s u a es.length ∧ (∀ e ∈ es, OkE e)) ∧ ∃ (n : Nat) (A' : Option Addr) (c' : Nat) (T : List Hr), d = (n : Int) + 2 ∧ x = .returned (.tuple #[.slice A' (n + 2) c', .int .i64 0]) ∧ n + 2 ≤ c' ∧ Rws w' w.heap.size (.slice A' (n + 2) c') T ∧ T.map (·.2.2) = fullE s u a es n) ∨
  (¬ (NumOk d s u a es.length ∧ (∀ e ∈ es, OkE e)) ∧ x = .returned (.tuple #[.slice none 0 0, .int .i64 1]))
theorem sum_len (L : List (List Int)) (n : Nat) : (sumP L n).length = n ∧ (sumQ L n).length = n := by simp [sumP, sumQ]
theorem encode_all (d s u a : Int) (A : Option Addr) (c : Nat) (es : List Ent) (w : World) (hd : I64 d) (hl : es.length ≤ 1000000) (hwf : ∀ e ∈ es, e.Wf) (hc : es.length ≤ c) (hs0 : Sl w 0 w.heap.size 19 A (es.map Ent.arr)) :
    Calls Try.prog 12 #[.int .i64 d, .int .i64 s, .int .i64 u, .int .i64 a, .slice A es.length c] w fun x w' => EncR d s u a es w x w' ∧ Below w.heap.size w w' := by
  by_cases h : NumOk d s u a es.length
  · obtain ⟨m, hm⟩ := firstBad es
    by_cases hme : m < es.length
    · obtain ⟨h1, h2, h3, h4, h5, h6, h7, h8, h9⟩ := h
      refine (encode_bad2 d s u a m A c es w ⟨h1, h2⟩ ⟨h3, h4⟩ ⟨h5, h6⟩ ⟨h7, h8⟩ h9 hm hme hs0).mono fun x w' ⟨hx, hb⟩ => ⟨.inr ⟨fun hh => hm.2.2 hme (hh.2 _ (List.getElem_mem hme)), hx⟩, hb⟩
    · have hok : ∀ e ∈ es, OkE e := fun e he => by
        obtain ⟨i, hi, rfl⟩ := List.mem_iff_getElem.1 he
        exact hm.2.1 i hi (by omega)
      have h' := h
      obtain ⟨h1, h2, h3, h4, h5, h6, h7, h8, h9⟩ := h
      obtain ⟨n, rfl⟩ : ∃ n : Nat, d = ((n + 2 : Nat) : Int) := ⟨(d - 2).toNat, by omega⟩
      refine (encode_ok (n + 2) n s u a A c es _ _ w ⟨by omega, by omega⟩ rfl ⟨h3, h4⟩ ⟨h5, h6⟩ ⟨h7, h8⟩ (by omega) hwf hok hc hs0 (by rw [(sum_len _ _).1]; omega) (by rw [(sum_len _ _).2]; omega) (par_rs s u a es n hwf (by omega) (by omega))).mono fun x w' ⟨⟨A', c', T, hx, hc', hT, hL⟩, hb⟩ => ⟨.inl ⟨⟨h', hok⟩, n, A', c', T, by simp, hx, hc', hT, hL⟩, hb⟩
  · exact (encode_bad1 d s u a A es.length c w hd hl h).mono fun x w' ⟨hx, hb⟩ => ⟨.inr ⟨fun hh => h hh.1, hx⟩, hb⟩
theorem rencode_all (d s u a : Int) (A : Option Addr) (c : Nat) (es : List Ent) (w : World) (hd : I64 d) (hl : es.length ≤ 1000000) (hwf : ∀ e ∈ es, e.Wf) (hc : es.length ≤ c) (hs0 : Sl w 0 w.heap.size 19 A (es.map Ent.arr)) :
    Calls Try.prog 14 #[.int .i64 d, .int .i64 s, .int .i64 u, .int .i64 a, .slice A es.length c] w fun x w' => EncR d s u a es w x w' ∧ Below w.heap.size w w' := by
  by_cases h : NumOk d s u a es.length
  · obtain ⟨m, hm⟩ := firstBad es
    have h' := h
    obtain ⟨h1, h2, h3, h4, h5, h6, h7, h8, h9⟩ := h
    obtain ⟨n, rfl⟩ : ∃ n : Nat, d = ((n + 2 : Nat) : Int) := ⟨(d - 2).toNat, by omega⟩
    by_cases hme : m < es.length
    · exact (rencode_bad2 (n + 2) n m s u a A c es w ⟨by omega, by omega⟩ rfl ⟨h3, h4⟩ ⟨h5, h6⟩ ⟨h7, h8⟩ (by omega) hwf hme hm.2.1 (hm.2.2 hme) hc hs0).mono fun x w' ⟨hx, hb⟩ => ⟨.inr ⟨fun hh => hm.2.2 hme (hh.2 _ (List.getElem_mem hme)), hx⟩, hb⟩
    · have hok : ∀ e ∈ es, OkE e := fun e he => by
        obtain ⟨i, hi, rfl⟩ := List.mem_iff_getElem.1 he
        exact hm.2.1 i hi (by omega)
      refine (rencode_ok (n + 2) n s u a A c es _ _ w ⟨by omega, by omega⟩ rfl ⟨h3, h4⟩ ⟨h5, h6⟩ ⟨h7, h8⟩ (by omega) hwf hok hc hs0 (by rw [(sum_len _ _).1]; omega) (by rw [(sum_len _ _).2]; omega) (par_ref s u a es n hwf (by omega) (by omega))).mono fun x w' ⟨⟨A', c', T, hx, hc', hT, hL⟩, hb⟩ => ⟨.inl ⟨⟨h', hok⟩, n, A', c', T, by simp, hx, hc', hT, hL⟩, hb⟩
  · exact (rencode_bad1 d s u a A es.length c w hd hl h).mono fun x w' ⟨hx, hb⟩ => ⟨.inr ⟨fun hh => h hh.1, hx⟩, hb⟩
end Go.Proofs.Ytibileffpgnjhaa.Base
/-
  How many there are of each of some (row.tally.of, row.states): a map of the call's own.
-/
namespace Go.Proofs.Ytibileffpgnjhaa.Base
open Go.RowKit Go.Maps Go.Proofs.YtibileffpgnjhaaW.PrintWords Go.Proofs.YtibileffpgnjhaaW.PrintLast
set_option linter.unusedSimpArgs false
set_option linter.unusedVariables false
theorem mlaw3 : Keyed Try.prog 3 := int_keyed Try.underlying3
theorem mzero3 (w : World) : (zeroValue 3).run Try.prog w = .ok (.int .i64 0) w := by kernel_rfl
def In (xs : List Int) : List (Array Value) := xs.map fun x => #[Value.int .i64 x]
theorem In.sized (bs : List Int) : Sized 1 (In bs) := by
  intro x hx
  obtain ⟨b, _, rfl⟩ := List.mem_map.1 hx
  rfl
theorem In.ones (bs : List Int) : Ones (In bs) := by
  intro x hx v hv
  obtain ⟨b, _, rfl⟩ := List.mem_map.1 hx
  simp only [List.mem_cons, List.not_mem_nil, or_false] at hv
  subst hv
  rfl
theorem In.len (bs : List Int) : (In bs).length = bs.length := by simp [In]
theorem In.app (bs cs : List Int) : In (bs ++ cs) = In bs ++ In cs := by simp [In]
theorem info_int : (Try.prog.info? 3).map (fun i => (i.zero, i.size, i.bytes)) = some (some (.int .i64 0), 1, 8) := by kernel_rfl
theorem run_append_in (w : World) (base n : Nat) (v : Value) (bs cs : List Int) (hown : Ow w base 3 1 v (In bs)) (hn : bs.length = n) (L B : Nat) (A : Option Addr) (m c : Nat) (hy : Sl w L B 1 A (In cs)) (hm : cs.length = m)
    (hsm : n + m ≤ 1000000) (hbase : base ≤ w.heap.size) (ty : TypeId) :
    ∃ A' c' w', (Builtin.append_ #[34, 34] ty #[v, .slice A m c]).run Try.prog w = .ok (.slice A' (n + m) c') w' ∧ Ow w' base 3 1 (.slice A' (n + m) c') (In (bs ++ cs)) ∧ w.grownBy w' v.ownBlock ∧ n + m ≤ c' := by
  obtain ⟨i0, hi0, hz0, hz1, hz2⟩ := info_parts info_int
  obtain ⟨A', c', w', h1, h2, h3, h4⟩ := run_append_ow (P := Try.prog) w base 34 ty 3 i0 _ 1 8 Try.underlying34 hi0 hz0 hz1 hz2 rfl (by omega) v (In bs) hown L B A m c (In cs) hy
    (In.sized cs) (In.ones cs) (by rw [In.len]; exact hm) (by rw [In.len, hn]; unfold maxLen; omega) (by rw [In.len, hn]; omega) hbase
  rw [In.len, hn] at h1 h2 h4
  exact ⟨A', c', w', h1, by rw [In.app]; exact h2, h3, h4⟩
/-- what a map that counts says -/
def Tal (D : DataW Unit) (l : List Int) : Prop := IsMap D ∧ ∀ x : Int, D.atKey (.int .i64 x) (.lit (.int .i64 0)) = .lit (.int .i64 (l.count x))
theorem Tal.nil : Tal (.map []) [] := ⟨isMap_empty, fun x => rfl⟩
theorem Tal.step {D : DataW Unit} {l : List Int} (h : Tal D l) (x : Int) : Tal (D.put (.int .i64 x) (.lit (.int .i64 ((l.count x : Int) + 1)))) (l ++ [x]) := by
  refine ⟨h.1.put _ _, fun y => ?_⟩
  by_cases hxy : y = x
  · subst hxy
    rw [atKey_put_same h.1 (show WideAt.IsKeyLit (.int .i64 y) from trivial)]
    simp [List.count_append]
  · rw [atKey_put_other (by simpa using hxy), h.2 y]
    have : List.count y [x] = 0 := by simp [List.count_cons]; exact fun e => hxy e.symm
    simp [List.count_append, this]
theorem Tal.cnt {D : DataW Unit} {l : List Int} (h : Tal D l) {x c : Int} (hat : D.atKey (.int .i64 x) (.lit (.int .i64 0)) = .lit (.int .i64 c)) : c = (l.count x : Int) := by
  have := h.2 x
  rw [hat] at this
  simpa using this
theorem info_tal : (Try.prog.info? 74).map (·.size) = some 1 := by kernel_rfl
abbrev OwM (w : World) (b n : Nat) (D : DataW Unit) : Prop := w.ownsMap Try.prog 3 (plainElem Try.prog 3) b n D
theorem OwM.ne {w : World} {b n : Nat} {D : DataW Unit} (h : OwM w b n D) {k o m : Nat} {cs : Array Value} (hr : rd w k o m = some cs) : k ≠ b := by
  rintro rfl
  obtain ⟨es, clock, hb, _⟩ := h
  unfold rd at hr
  rw [hb] at hr
  cases hr
set_option maxRecDepth 100000 in
set_option maxHeartbeats 1000000 in
theorem of_any (b : Nat) (A : Option Addr) (c L B base : Nat) (xs : List Int) (w : World) (hx : ∀ x ∈ xs, I64 x) (hl : xs.length ≤ 1000000) (hbase : base ≤ b) (hB : B ≤ w.heap.size) (hs : Sl w L B 1 A (In xs)) (ho : OwM w b 0 (.map [])) :
    Calls Try.prog 57 #[.agg #[.map (some b)], .slice A xs.length c] w fun e w' => e = .returned (.agg #[.map (some b)]) ∧ Below base w w' ∧ ∃ D, Tal D xs ∧ OwM w' b xs.length D := by
  have hblt := ho.lt
  go_enter Try.func57, Try.ntmps57
  go_wp2_with fail
  go_loopw [9] (fun s9 wr => ∃ (k : Nat) (D : DataW Unit), k ≤ xs.length ∧ s9 = .int .i64 k ∧ Tal D (xs.take k) ∧ OwM wr b k D ∧ Below base w wr ∧ w.heap.size + 2 ≤ wr.heap.size ∧ wr.cell? ⟨w.heap.size, 0, none⟩ = some (.map (some b)) ∧ wr.heap[w.heap.size + 1]? = some (.cells #[.map none] 74 (0, 0)) ∧ (∀ k, k < w.heap.size → k ≠ b → wr.heap[k]? = w.heap[k]?)) (fun s9 _ => xs.length - (intOf s9).toNat)
  case atStart =>
    refine ⟨0, .map [], by omega, rfl, Tal.nil, (ho.alloc _).alloc _, ((Below.refl _ _).alloc (by omega) _).alloc (by simp; omega) _, by simp, ?_, ?_, ?_⟩
    · go_simp
    · have := heap_alloc_new (w.alloc (Obj.cells #[.map (some b)] 74)) (Obj.cells #[.map none] 74)
      simpa using this
    · intro k hk _
      exact (Below.heap_alloc _ _ _ (by simp; omega)).trans (Below.heap_alloc _ _ _ hk)
  case round =>
    obtain ⟨k, D, hk, rfl, hT, hown, hb, hz, hbox, hres, hkeep⟩ := hrel
    by_cases hlt : k < xs.length
    · have hltI : (k : Int) < xs.length := by omega
      obtain ⟨ba, o, rfl, _, hbl, hr⟩ := hs.at_ (k := k) (by simpa [In] using hlt)
      have hne := ho.ne hr
      have hc1 := rd_cell ((rd_congr (hkeep ba (by omega) hne) _ _).trans hr) 0 (by omega)
      obtain ⟨X, hX⟩ : ∃ X, X = xs[k] := ⟨_, rfl⟩
      have hXI : I64 X := by rw [hX]; exact hx _ (List.getElem_mem hlt)
      have htk : xs.take (k + 1) = xs.take k ++ [X] := by rw [hX, List.take_succ_eq_append_getElem hlt]
      have hc2 : wr.cell? ⟨ba, o + k, none⟩ = some (.int .i64 X) := by
        rw [hX]
        simpa [In] using hc1
      have hkey : keyOf Try.prog 3 (.int .i64 X) = some (.int .i64 X) := keyOf_int_mk Try.underlying3 (by simpa [Lit.wf, IntKind.min, IntKind.max, IntKind.signed, IntKind.bits, I64] using hXI)
      have hcnt : (xs.take k).count X ≤ 1000000 := Nat.le_trans (List.count_le_length) (by rw [List.length_take]; omega)
      clear hX hc1 hr
      replace htk := hide htk
      replace hres := hide hres
      go_wp2_with (first
        | (at_lookup; refine wpList_lookup_own_int _ rfl _ _ 72 rfl 3 3 .i64 mlaw3 Try.underlying72 Try.underlying3 (mzero3 _) b k D rfl hown _ _ rfl hkey ?_; intro c_1 hat hwc)
        | (at_mapUpdate; refine wpList_mapUpdate_own _ rfl _ _ _ 72 rfl 3 3 mlaw3 Try.underlying72 _ b k D rfl hown (by unfold maxLen; omega) _ _ _ rfl rfl hkey _ [] (plainElem_int Try.underlying3 (wrap64_wf _)) ?_; intro w1 hown1 hgrow1))
      refine ⟨⟨k + 1, _, by omega, by go_num, ?_, hown1, hb.grown hgrow1 (by have := hb.size; omega) (fun j hj => by cases hj; exact hbase), by have := hgrow1.size; omega, hgrow1.cell hbox (fun e => by injection e with e; have e : w.heap.size = b := e; omega), (hgrow1.block (w.heap.size + 1) (by omega) (fun e => by injection e with e; omega)).trans (unhide hres), fun j hj hjb => (hgrow1.block j (by omega) (fun e => by injection e with e; omega)).trans (hkeep j hj hjb)⟩, by simp [intOf]; omega⟩
      rw [unhide htk]
      have e1 : wrap64 (c_1 + 1) = (((xs.take k).count X : Nat) : Int) + 1 := by
        rw [hT.cnt hat]
        rw [← i64_w]
        exact IntWalk.i64_in ((((xs.take k).count X : Nat) : Int) + 1) (by omega)
      rw [e1]
      exact hT.step X
    · obtain rfl : k = xs.length := by omega
      have hfr : wr.frozen? ⟨w.heap.size + 1, 0, none⟩ = false := by simp [World.frozen?, hres]
      have hrc : wr.cell? ⟨w.heap.size + 1, 0, none⟩ = some (.map none) := by simp [World.cell?, hres]
      have hr2 : rd (wr.setCell ⟨w.heap.size + 1, 0, none⟩ (.map (some b))) (w.heap.size + 1) 0 1 = some #[.map (some b)] := by
        rw [rd_setCell_same]
        simp [rd, hres]
      replace hres := hide hres
      replace hr2 := hide hr2
      have hT' := hT
      rw [List.take_length] at hT'
      go_wp2_with fail
      refine bodyPost_ret (results_c Try.results57 Try.underlying74 rfl info_tal (cs := #[.map (some b)]) rfl (unhide hr2)) rfl ?_
      exact ⟨rfl, hb.setCell (by show base ≤ w.heap.size + 1; omega) _, D, hT', hown.setCell (by show b ≠ w.heap.size + 1; omega) _⟩
end Go.Proofs.Ytibileffpgnjhaa.Base
/-
  Pages' states (row.states).
-/
namespace Go.Proofs.Ytibileffpgnjhaa.Base
open Go.RowKit Go.Maps Go.Proofs.YtibileffpgnjhaaW.PrintWords Go.Proofs.YtibileffpgnjhaaW.PrintLast
set_option linter.unusedSimpArgs false
set_option linter.unusedVariables false
/-- a page: its state, its bytes -/
abbrev Pg := Int × Hr
def Pg.arr (p : Pg) : Array Value := #[.int .i64 p.1, p.2.cell]
set_option maxRecDepth 100000 in
set_option maxHeartbeats 1000000 in
theorem states_any (A : Option Addr) (c : Nat) (ps : List Pg) (w : World) (hx : ∀ p ∈ ps, I64 p.1) (hl : ps.length ≤ 1000) (hc : ps.length ≤ c) (hs : Sl w 0 w.heap.size 2 A (ps.map Pg.arr)) :
    Calls Try.prog 36 #[.slice A ps.length c] w fun e w' => ∃ b D, e = .returned (.agg #[.map (some b)]) ∧ Below w.heap.size w w' ∧ Tal D (ps.map (·.1)) ∧ OwM w' b ps.length D := by
  go_enter Try.func36, Try.ntmps36
  go_wp2_with fail
  obtain ⟨W0, hW⟩ : ∃ W0, w.alloc (Obj.cells #[.map none] 74) = W0 := ⟨_, rfl⟩
  rw [hW]
  have z0 : W0.heap.size = w.heap.size + 1 := by rw [← hW]; simp
  have b0 : Below w.heap.size w W0 := by rw [← hW]; exact (Below.refl _ _).alloc (Nat.le_refl _) _
  have f0 : W0.heap[w.heap.size]? = some (.cells #[.map none] 74 (0, 0)) := by rw [← hW]; exact heap_alloc_new _ _
  clear hW
  replace z0 := hide z0
  replace f0 := hide f0
  go_loopw [3, 8] (fun s3 s8 wr => ∃ (j : Nat) (A2 : Option Addr) (c2 : Nat), j ≤ ps.length ∧ s8 = .int .i64 j ∧ s3 = .slice A2 j c2 ∧ j ≤ c2 ∧ Ow wr W0.heap.size 3 1 (.slice A2 j c2) (In ((ps.take j).map (·.1))) ∧ Below W0.heap.size W0 wr) (fun _ s8 _ => ps.length - (intOf s8).toNat)
  case atStart => exact ⟨0, none, 0, by omega, rfl, rfl, by omega, Ow.nil W0 W0.heap.size 3 1, Below.refl _ _⟩
  case round =>
    obtain ⟨j, A2, c2, hj, rfl, rfl, hc2, ho, hb⟩ := hrel
    have hz := hb.size
    by_cases hlt : j < ps.length
    · have hltI : (j : Int) < ps.length := by omega
      obtain ⟨b, o, rfl, _, hbl, hr⟩ := hs.at_ (k := j) (by simpa using hlt)
      simp only [List.getElem_map] at hr
      have hr2 := (rd_below (b0.trans (hb.mono (by rw [unhide z0]; omega))) hbl _ _).trans hr
      obtain ⟨X, hX⟩ : ∃ X, X = ps[j] := ⟨_, rfl⟩
      have htk : ps.take (j + 1) = ps.take j ++ [X] := by rw [hX, List.take_succ_eq_append_getElem hlt]
      rw [← hX] at hr2
      clear hr hX
      have hc0 : wr.cell? ⟨b, o + j * 2, none⟩ = some (.int .i64 X.1) := rd_cell hr2 0 (by omega)
      have hc1 : wr.cell? ⟨b, o + j * 2 + 1, none⟩ = some (.slice X.2.1 X.2.2.2.length X.2.2.1) := rd_cell hr2 1 (by omega)
      replace htk := hide htk
      replace hr2 := hide hr2
      obtain ⟨W3, hW3⟩ : ∃ W3, wr.alloc (Obj.cells #[Value.int .i64 X.1, Value.slice X.2.1 X.2.2.2.length X.2.2.1] 56) = W3 := ⟨_, rfl⟩
      have b3 : Below wr.heap.size wr W3 := by rw [← hW3]; exact (Below.refl _ _).alloc (Nat.le_refl _) _
      have ho3 := ho.below b3 (fun g hg => (ho.lt g hg).2)
      have z3 := b3.size
      obtain ⟨A3, c3, w4, hrun, ho4, hg4, hc4⟩ := run_append_in (W3.alloc (.cells #[.int .i64 X.1] 3)) W0.heap.size j (.slice A2 j c2) ((ps.take j).map (·.1)) [X.1] (ho3.alloc _) (by rw [List.length_map, List.length_take]; omega) 0 (W3.heap.size + 1) (some ⟨W3.heap.size, 0, none⟩) 1 1 (Sl.one (rd_new_whole _ _ _ _ _ _ rfl rfl) (Nat.zero_le _) (Nat.lt_succ_self _)) rfl (by omega) (by simp; omega) 34
      have hb4 : Below W0.heap.size W0 w4 := below_grown ((hb.trans (b3.mono hz)).alloc (by omega) _) hg4 (by simp; omega) (fun k ek => ((ho3.alloc (.cells #[.int .i64 X.1] 3)).lt k ek).1)
      have hlist : (ps.take j).map (·.1) ++ [X.1] = (ps.take (j + 1)).map (·.1) := by rw [unhide htk, List.map_append]; rfl
      rw [hlist] at ho4
      clear hlist ho3 b3
      rw [← hW3] at hrun
      simp only [World.size_alloc] at hrun
      replace hW3 := hide hW3
      replace ho4 := hide ho4
      go_wp2_with (at_builtin; refine wpList_step (fun K hK => step_append_ex (o := ⟨some 16, _, _, _, _, _⟩) (.tmp 12) (.tmp 15) 34 rfl (by rfl) ?_); (with_reducible refine app_ex hrun ?_ (hK _ _ ?_)); rfl)
      go_roundw
      case rel => exact ⟨j + 1, A3, c3, by omega, by go_num, rfl, hc4, unhide ho4, hb4⟩
      case measure => simp [intOf]; omega
    · obtain rfl : j = ps.length := by omega
      have hmm := @run_makeMap Try.prog
      have htl : ps.take ps.length = ps := List.take_length
      rw [htl] at ho
      have hcon := of_any wr.heap.size A2 c2 0 wr.heap.size W0.heap.size (ps.map (·.1)) (wr.alloc (Obj.map #[] 0)) (fun x hx' => by obtain ⟨p, hp, rfl⟩ := List.mem_map.1 hx'; exact hx p hp) (by simp; omega) hz (by simp) (((ho.sl (In.sized _) (by omega)).less (Nat.zero_le _)).below ((Below.refl _ _).alloc (Nat.le_refl _) _)) (World.ownsMap_made _ _ _ _)
      rw [List.length_map] at hcon
      replace htl := hide htl
      go_wp2_with fail
      (with_reducible refine hcon.mono ?_)
      rintro x w5 ⟨rfl, hb5, D, hT, hD⟩
      have hz5 := hb5.size
      simp only [World.size_alloc] at hz5
      have f5 : w5.heap[w.heap.size]? = some (.cells #[.map none] 74 (0, 0)) := by
        refine (hb5.block _ (by rw [unhide z0]; omega)).trans ((Below.heap_alloc _ _ _ (by rw [unhide z0] at hz; omega)).trans ((hb.block _ (by rw [unhide z0]; omega)).trans (unhide f0)))
      have f5c : w5.cell? ⟨w.heap.size, 0, none⟩ = some (.map none) := by simp [World.cell?, f5]
      have f5f : w5.frozen? ⟨w.heap.size, 0, none⟩ = false := by simp [World.frozen?, f5]
      have hr2 : rd (w5.setCell ⟨w.heap.size, 0, none⟩ (.map (some wr.heap.size))) w.heap.size 0 1 = some #[.map (some wr.heap.size)] := by
        rw [rd_setCell_same]
        simp [rd, f5]
      replace f5 := hide f5
      replace hr2 := hide hr2
      go_wp2_with fail
      refine bodyPost_ret (results_c Try.results36 Try.underlying74 rfl info_tal (cs := #[.map (some wr.heap.size)]) rfl (unhide hr2)) rfl ?_
      have hbF : Below w.heap.size w w5 := ((b0.trans (hb.mono (by rw [unhide z0]; omega))).alloc (by rw [unhide z0] at hz; omega) _).trans (hb5.mono (by rw [unhide z0]; omega))
      refine ⟨_, D, rfl, hbF.setCell (Nat.le_refl _) _, hT, hD.setCell (by show wr.heap.size ≠ w.heap.size; rw [unhide z0] at hz; omega) _⟩
end Go.Proofs.Ytibileffpgnjhaa.Base
/-
  row.Decode of pages that are told by their states alone.
-/
namespace Go.Proofs.Ytibileffpgnjhaa.Base
open Go.RowKit Go.Maps Go.Proofs.YtibileffpgnjhaaW.PrintWords Go.Proofs.YtibileffpgnjhaaW.PrintLast
set_option linter.unusedSimpArgs false
set_option linter.unusedVariables false
theorem info_row : (Try.prog.info? 37).map (·.size) = some 3 := by kernel_rfl
theorem dies_tt (n : Int) (w : World) (h : 6 ≤ n ∧ n ≤ 8) : Calls Try.prog 23 #[.int .i64 n] w fun e w' => e = .returned (.bool true) ∧ w = w' := by
  have := dies_any n w
  rw [decide_eq_true h.1, decide_eq_true h.2] at this
  exact this
theorem kl_int {x : Int} (h : I64 x) : keyOf Try.prog 3 (.int .i64 x) = some (.int .i64 x) := keyOf_int_mk Try.underlying3 (by simpa [Lit.wf, IntKind.min, IntKind.max, IntKind.signed, IntKind.bits, I64] using h)
theorem run_field_tal (v : Value) (w : World) : (Instr.field 74 (.agg #[v]) 0).run Try.prog w = .ok v w := by kernel_rfl
attribute [local go_sem] run_field_tal
/-- blank ones, good ones -/
def zs (ps : List Pg) : Nat := (ps.map (·.1)).count 0
def gs (ps : List Pg) : Nat := (ps.map (·.1)).count 2
def early (ps : List Pg) : Int := if zs ps = ps.length then 2 else if 0 < zs ps then 5 else 11
set_option maxRecDepth 100000 in
set_option maxHeartbeats 2000000 in
theorem decode_early (s a most : Int) (A : Option Addr) (c : Nat) (ps : List Pg) (w : World) (hx : ∀ p ∈ ps, I64 p.1) (hl : 6 ≤ ps.length ∧ ps.length ≤ 8) (hm : 0 ≤ most ∧ most ≤ 2) (hc : ps.length ≤ c) (hs : Sl w 0 w.heap.size 2 A (ps.map Pg.arr))
    (he : 0 < zs ps ∨ most < (ps.length : Int) - gs ps) :
    Calls Try.prog 17 #[.int .i64 s, .int .i64 a, .slice A ps.length c, .int .i64 most] w fun x w' => x = .returned (.tuple #[.agg #[.int .i64 0, .int .i64 0, .slice none 0 0], .int .i64 (early ps)]) ∧ Below w.heap.size w w' := by
  have hdies := fun w => dies_tt (ps.length : Int) w (by omega)
  have hgl : gs ps ≤ ps.length := by unfold gs; exact Nat.le_trans List.count_le_length (by simp)
  have hsub : wrap64 ((ps.length : Int) - (gs ps : Int)) = (ps.length : Int) - (gs ps : Int) := by rw [← i64_w]; exact IntWalk.i64_in ((ps.length : Int) - (gs ps : Int)) (by omega)
  replace hsub := hide hsub
  go_enter Try.func17, Try.ntmps17
  go_wp2_with fail
  refine (hdies _).mono ?_
  rintro e w1 ⟨rfl, rfl⟩
  go_wp2_with fail
  obtain ⟨W0, hW⟩ : ∃ W0, w.alloc (Obj.cells #[.int .i64 0, .int .i64 0, .slice none 0 0] 37) = W0 := ⟨_, rfl⟩
  rw [hW]
  have z0 : W0.heap.size = w.heap.size + 1 := by rw [← hW]; simp
  have b0 : Below w.heap.size w W0 := by rw [← hW]; exact (Below.refl _ _).alloc (Nat.le_refl _) _
  have f0 : W0.heap[w.heap.size]? = some (.cells #[.int .i64 0, .int .i64 0, .slice none 0 0] 37 (0, 0)) := by rw [← hW]; exact heap_alloc_new _ _
  clear hW
  replace z0 := hide z0
  refine (states_any A c ps W0 hx (by omega) hc ((hs.below b0).more (by rw [unhide z0]; omega))).mono ?_
  rintro e w1 ⟨b, D, rfl, hb1, hT, hD⟩
  have f1 := (hb1.block _ (by rw [unhide z0]; omega)).trans f0
  have f1c : w1.cell? ⟨w.heap.size, 0, none⟩ = some (.int .i64 0) := by simp [World.cell?, f1]
  have f1c1 : w1.cell? ⟨w.heap.size, 1, none⟩ = some (.int .i64 0) := by simp [World.cell?, f1]
  have f1c2 : w1.cell? ⟨w.heap.size, 2, none⟩ = some (.slice none 0 0) := by simp [World.cell?, f1]
  have f1f : w1.frozen? ⟨w.heap.size, 0, none⟩ = false := by simp [World.frozen?, f1]
  have hbF : Below w.heap.size w w1 := b0.trans (hb1.mono (by rw [unhide z0]; omega))
  replace f0 := hide f0
  replace f1 := hide f1
  have hk0 := kl_int (x := 0) ⟨by omega, by omega⟩
  have hk2 := kl_int (x := 2) ⟨by omega, by omega⟩
  have f1f1 : w1.frozen? ⟨w.heap.size, 1, none⟩ = false := by simp [World.frozen?, unhide f1]
  have f1f2 : w1.frozen? ⟨w.heap.size, 2, none⟩ = false := by simp [World.frozen?, unhide f1]
  have hrd : rd (((w1.setCell ⟨w.heap.size, 0, none⟩ (.int .i64 0)).setCell ⟨w.heap.size, 1, none⟩ (.int .i64 0)).setCell ⟨w.heap.size, 2, none⟩ (.slice none 0 0)) w.heap.size 0 3 = some #[.int .i64 0, .int .i64 0, .slice none 0 0] := by
    rw [rd_setCell_same, rd_setCell_same, rd_setCell_same]
    simp [rd, unhide f1]
  have hbS : Below w.heap.size w (((w1.setCell ⟨w.heap.size, 0, none⟩ (.int .i64 0)).setCell ⟨w.heap.size, 1, none⟩ (.int .i64 0)).setCell ⟨w.heap.size, 2, none⟩ (.slice none 0 0)) := ((hbF.setCell (Nat.le_refl _) _).setCell (Nat.le_refl _) _).setCell (Nat.le_refl _) _
  replace hrd := hide hrd
  obtain ⟨z, hz⟩ : ∃ z : Nat, z = zs ps := ⟨_, rfl⟩
  obtain ⟨g, hg⟩ : ∃ g : Nat, g = gs ps := ⟨_, rfl⟩
  have hcz : ∀ cc : Int, D.atKey (.int .i64 0) (.lit (.int .i64 0)) = .lit (.int .i64 cc) → cc = (z : Int) := fun cc h => by rw [hz]; exact hT.cnt h
  have hcg : ∀ cc : Int, D.atKey (.int .i64 2) (.lit (.int .i64 0)) = .lit (.int .i64 cc) → cc = (g : Int) := fun cc h => by rw [hg]; exact hT.cnt h
  have hE : early ps = if z = ps.length then 2 else if 0 < z then 5 else 11 := by unfold early; rw [hz]
  rw [← hz, ← hg] at he
  rw [← hg] at hgl hsub
  clear hz hg hT
  have hcz := hide hcz
  have hcg := hide hcg
  by_cases h1 : z = ps.length
  · rw [if_pos h1] at hE
    replace hE := hide hE
    clear he
    subst h1
    go_wp2_with (at_lookup; refine wpList_lookup_own_int _ rfl _ _ 72 rfl 3 3 .i64 mlaw3 Try.underlying72 Try.underlying3 (mzero3 _) b ps.length D rfl hD _ _ rfl hk0 ?_; intro c_1 hat hwc; obtain rfl := unhide hcz _ hat)
    refine bodyPost_ret (results_ct Try.results17 Try.underlying37 rfl info_row (cs := #[.int .i64 0, .int .i64 0, .slice none 0 0]) rfl (unhide hrd)) rfl ?_
    rw [unhide hE]
    exact ⟨rfl, hbS⟩
  · rw [if_neg h1] at hE
    by_cases h2 : 0 < z
    · rw [if_pos h2] at hE
      replace hE := hide hE
      clear he
      go_wp2_with (at_lookup; refine wpList_lookup_own_int _ rfl _ _ 72 rfl 3 3 .i64 mlaw3 Try.underlying72 Try.underlying3 (mzero3 _) b ps.length D rfl hD _ _ rfl hk0 ?_; intro c_1 hat hwc; obtain rfl := unhide hcz _ hat)
      refine bodyPost_ret (results_ct Try.results17 Try.underlying37 rfl info_row (cs := #[.int .i64 0, .int .i64 0, .slice none 0 0]) rfl (unhide hrd)) rfl ?_
      rw [unhide hE]
      exact ⟨rfl, hbS⟩
    · rw [if_neg h2] at hE
      replace hE := hide hE
      have he' := he.resolve_left h2
      clear he
      go_wp2_with (first | (at_lookup; refine wpList_lookup_own_int _ rfl _ _ 72 rfl 3 3 .i64 mlaw3 Try.underlying72 Try.underlying3 (mzero3 _) b ps.length D rfl hD _ _ rfl hk0 ?_; intro c_1 hat hwc; obtain rfl := unhide hcz _ hat) | (at_lookup; refine wpList_lookup_own_int _ rfl _ _ 72 rfl 3 3 .i64 mlaw3 Try.underlying72 Try.underlying3 (mzero3 _) b ps.length D rfl hD _ _ rfl hk2 ?_; intro c_1 hat hwc; obtain rfl := unhide hcg _ hat))
      refine bodyPost_ret (results_ct Try.results17 Try.underlying37 rfl info_row (cs := #[.int .i64 0, .int .i64 0, .slice none 0 0]) rfl (unhide hrd)) rfl ?_
      rw [unhide hE]
      exact ⟨rfl, hbS⟩
end Go.Proofs.Ytibileffpgnjhaa.Base
/-
  The chapter's example (ramekinlaw11.known).
-/
namespace Go.Proofs.Ytibileffpgnjhaa.Base
open Go.RowKit Go.Maps Go.Proofs.YtibileffpgnjhaaW.PrintWords Go.Proofs.YtibileffpgnjhaaW.PrintLast
set_option linter.unusedSimpArgs false
set_option linter.unusedVariables false
def blanks : List Pg := List.replicate 6 (0, none, 0, [])
def blankCells : Array Value := #[.int .i64 0, .slice none 0 0, .int .i64 0, .slice none 0 0, .int .i64 0, .slice none 0 0, .int .i64 0, .slice none 0 0, .int .i64 0, .slice none 0 0, .int .i64 0, .slice none 0 0]
theorem run_mk6 (w : World) : (Instr.makeSlice 40 (.int .i64 6) (.int .i64 6)).run Try.prog w = .ok (.slice (some ⟨w.heap.size, 0, none⟩) 6 6) (w.alloc (.cells blankCells 56)) := by kernel_rfl
theorem sl_blanks (w : World) : Sl (w.alloc (.cells blankCells 56)) 0 (w.alloc (.cells blankCells 56)).heap.size 2 (some ⟨w.heap.size, 0, none⟩) (blanks.map Pg.arr) :=
  Sl.of_rd (fun x hx => by obtain ⟨p, hp, rfl⟩ := List.mem_map.1 hx; rfl) ((rd_new_whole _ _ _ _ _ _ rfl rfl).trans rfl) (Nat.zero_le _) (by simp)
attribute [local go_sem] run_mk6
set_option maxRecDepth 100000 in
set_option maxHeartbeats 2000000 in
theorem known_any (w : World) : Calls Try.prog 10 #[] w fun x w' => x = .returned (.bool true) ∧ Below w.heap.size w w' := by
  have hcon := decode_early 0 0 1 (some ⟨w.heap.size, 0, none⟩) 6 blanks _ (by intro p hp; rw [List.eq_of_mem_replicate hp]; exact ⟨by omega, by omega⟩) ⟨by decide, by decide⟩ ⟨by omega, by omega⟩ (by decide) (sl_blanks w) (.inl (by decide))
  have hE : early blanks = 2 := by decide
  rw [hE] at hcon
  have hlb : blanks.length = 6 := rfl
  rw [hlb] at hcon
  replace hE := hide hE
  replace hlb := hide hlb
  go_enter Try.func10, Try.ntmps10
  go_wp2_with fail
  (with_reducible refine hcon.mono ?_)
  rintro e w1 ⟨rfl, hb1⟩
  go_wp2_with fail
  obtain ⟨W1, hW1⟩ : ∃ W1, w1.alloc (Obj.cells #[.int .i64 0, .int .i64 0, .slice none 0 0] 37) = W1 := ⟨_, rfl⟩
  rw [hW1]
  have hb2 : Below w.heap.size w W1 := by
    rw [← hW1]
    have := ((Below.refl w.heap.size w).alloc (Nat.le_refl _) (.cells blankCells 56)).trans (hb1.mono (by simp))
    exact this.alloc this.size _
  refine (encode_all 6 1 0 0 none 0 [] W1 ⟨by omega, by omega⟩ (by simp) (fun e he => by simp at he) (by simp) Sl.nil).mono ?_
  rintro x w3 ⟨hx, hb3⟩
  have hbF := hb2.trans (hb3.mono hb2.size)
  rcases hx with ⟨_, n, A', c', T, hn, rfl, _⟩ | ⟨hno, _⟩
  · have h4 : n = 4 := by omega
    subst h4
    clear hW1
    go_wp2_with fail
    go_ret
    exact ⟨rfl, hbF⟩
  · exact absurd ⟨⟨by omega, by omega, by omega, by omega, by omega, by omega, by omega, by omega, by simp⟩, fun e he => by simp at he⟩ hno
end Go.Proofs.Ytibileffpgnjhaa.Base
/-
  ramekinlaw11.same: are two rows of rows the same?
-/
namespace Go.Proofs.Ytibileffpgnjhaa.Sk
open Go.RowKit Go.Proofs.YtibileffpgnjhaaW.PrintWords Go.Proofs.YtibileffpgnjhaaW.PrintLast Go.Proofs.YtibileffpgnjhaaW.PrintMore Go.Proofs.Ytibileffpgnjhaa.PRq Go.Proofs.Ytibileffpgnjhaa.Fld
set_option linter.unusedSimpArgs false
set_option linter.unusedVariables false
def BytL (l : List (List Int)) : Prop := ∀ r ∈ l, ∀ x ∈ r, 0 ≤ x ∧ x < 256
theorem row_in {L : List (List Int)} {j : Nat} (h : j < L.length) : row L j = L[j] := by unfold row; simp [h]
theorem strOfNums_inj {a b : List Int} (ha : ∀ x ∈ a, 0 ≤ x ∧ x < 256) (hb : ∀ x ∈ b, 0 ≤ x ∧ x < 256) (h : (strOfNums a).toList = (strOfNums b).toList) : a = b := by
  rw [Lib.strOfNums_toList, Lib.strOfNums_toList] at h
  have hl : a.length = b.length := by have := congrArg List.length h; simpa [Lib.bytesOf] using this
  apply List.ext_getElem hl
  intro k h1 h2
  have h3 := congrArg (fun l => l[k]?) h
  simp only [Lib.bytesOf, List.getElem?_map, List.getElem?_eq_getElem h1, List.getElem?_eq_getElem h2, Option.map_some, Option.some.injEq] at h3
  have h4 := congrArg UInt8.toNat h3
  simp only [UInt8.toNat_ofNat'] at h4
  have ha1 := ha _ (List.getElem_mem h1)
  have hb1 := hb _ (List.getElem_mem h2)
  omega
set_option maxHeartbeats 1000000 in
theorem same_calls (A0 : Option Addr) (c0 : Nat) (l0 : List (List Int)) (A1 : Option Addr) (c1 : Nat) (l1 : List (List Int)) (w : World) (hr0 : Kd.C (Kd.slice 5 (Kd.int .u8)) w A0 l0.length l0) (hr1 : Kd.C (Kd.slice 5 (Kd.int .u8)) w A1 l1.length l1)
    (b0 : BytL l0) (b1 : BytL l1) (n0 : l0.length ≤ 1000000) (n1 : l1.length ≤ 1000000) :
    Calls Try.prog 15 #[.slice A0 l0.length c0, .slice A1 l1.length c1] w fun e w' => e = .returned (.bool (decide (l0 = l1))) ∧ Drawn0 w w' := by
  by_cases hlen : l0.length = l1.length
  · have Hlen := Lib.hid hlen
    have HR0 := Lib.hid hr0
    have HR1 := Lib.hid hr1
    have HB0 := Lib.hid b0
    have HB1 := Lib.hid b1
    clear b0 b1 hr0 hr1
    have hbe : ((l0.length : Int) != (l1.length : Int)) = false := by rw [hlen]; simp
    clear hlen
    go_enter Try.func15, Try.ntmps15
    go_wp2
    go_loopw [5] (fun i wr => ∃ j : Nat, j ≤ l0.length ∧ i = .int .i64 j ∧ Hid (∀ k, k < j → row l0 k = row l1 k) ∧ ∃ m, wr = w.drewN m) (fun i _ => l0.length - (intOf i).toNat)
    case atStart => exact ⟨0, Nat.zero_le _, rfl, fun k hk => by omega, 0, rfl⟩
    case round =>
      obtain ⟨j, hj, rfl, hrow, m, rfl⟩ := hrel
      by_cases hjl : j < l0.length
      · obtain ⟨ad0, A0', c0', e0, hx0, hl0, hi0⟩ := at_L2 HR0.out (j : Int) (by omega) (by omega)
        obtain ⟨ad1, A1', c1', e1, hx1, hl1, hi1⟩ := at_L2 HR1.out (j : Int) (by omega) (by have := Hlen.out; omega)
        subst e0 e1
        have hj1 : (j : Int) < (l1.length : Int) := by have := Hlen.out; omega
        have r0 : rd_L2 l0 (j : Int) = row l0 j := by unfold rd_L2 row; simp
        have r1 : rd_L2 l1 (j : Int) = row l1 j := by unfold rd_L2 row; simp
        rw [r0] at hx0 hi0 hl0
        rw [r1] at hx1 hi1 hl1
        clear r0 r1
        have hcv0 := fun n => Kd.C_string (P := Try.prog) (A := A0') (c := c0') Try.underlying47 Try.underlying5 Try.underlying9 (Kd.C_drewN hi0 n)
        have hcv1 := fun n => Kd.C_string (P := Try.prog) (A := A1') (c := c1') Try.underlying47 Try.underlying5 Try.underlying9 (Kd.C_drewN hi1 n)
        simp only [Int.toNat_natCast] at hx0 hx1
        clear hi0 hi1 hl0 hl1
        by_cases heq : row l0 j = row l1 j
        · have ht : ((strOfNums (row l0 j)).toList == (strOfNums (row l1 j)).toList) = true := by rw [heq]; simp
          have Heq := Lib.hid heq
          clear heq
          go_wp2_with fail
          go_quiet (fail)
          go_wp2
          refine ⟨⟨j + 1, by omega, by simp, fun k hk => ?_, m + nq, by first | rfl | exact World.drewN_drewN _ _ _⟩, by simp [intOf]; omega⟩
          by_cases e : k = j
          · subst e; exact Heq.out
          · exact hrow.out k (by omega)
        · have ht : ((strOfNums (row l0 j)).toList == (strOfNums (row l1 j)).toList) = false := by
            rw [beq_eq_false_iff_ne]
            intro h
            apply heq
            refine strOfNums_inj ?_ ?_ h
            · rw [row_in hjl]; exact HB0.out _ (List.getElem_mem hjl)
            · have hj2 : j < l1.length := by omega
              rw [row_in hj2]; exact HB1.out _ (List.getElem_mem hj2)
          have hd : decide (l0 = l1) = false := by
            rw [decide_eq_false_iff_not]
            intro e
            exact heq (by rw [e])
          have Hd := Lib.hid hd
          clear heq hd
          go_wp2_with fail
          go_quiet (fail)
          go_wp2
          go_ret
          rw [Hd.out]
          exact ⟨rfl, ⟨⟨m + nq, by first | rfl | exact World.drewN_drewN _ _ _⟩⟩⟩
      · have hd : decide (l0 = l1) = true := by
          rw [decide_eq_true_iff]
          apply List.ext_getElem Hlen.out
          intro k h1 h2
          rw [← row_in h1, ← row_in h2]
          exact hrow.out k (by omega)
        have Hd := Lib.hid hd
        clear hd
        go_wp2
        go_ret
        rw [Hd.out]
        exact ⟨rfl, ⟨⟨m, rfl⟩⟩⟩
  · have hbe : ((l0.length : Int) != (l1.length : Int)) = true := by rw [bne_iff_ne]; omega
    have hd : decide (l0 = l1) = false := by
      rw [decide_eq_false_iff_not]
      intro e
      exact hlen (by rw [e])
    have Hd := Lib.hid hd
    clear hd hlen b0 b1 hr0 hr1
    go_enter Try.func15, Try.ntmps15
    go_wp2
    go_ret
    rw [Hd.out]
    exact ⟨rfl, Drawn0.refl _⟩
end Go.Proofs.Ytibileffpgnjhaa.Sk
/-
  From a walk to a row: a law's post behind a call below which nothing has turned; arguments opened.
-/
namespace Go.Proofs.Ytibileffpgnjhaa.Base
set_option linter.unusedSimpArgs false
set_option linter.unusedVariables false
open Go.ChangeShapes Go.WideShapes Go.ChangeAt Go.RowKit Go.Deep

theorem below_trodAll {H : Type} {enc : TypeId × Value → H} {P : Program} (hl : laidOutB P = true) {W W' : World} (hb : Below W.heap.size W W') :
    ∀ {ts : List TypeId} {vs : List Value} {ds : List (DataW H)} {ps : List MemPlace}, (∀ t ∈ ts, P.readableRec t = true ∧ t < P.types.size) → (∀ x ∈ ps, x.block < W.heap.size) →
      DataW.TrodAll enc P W 0 (fun _ => true) true ts vs ds ps → DataW.TrodAll enc P W' 0 (fun b => decide (b < W.heap.size)) true ts vs ds ps
  | [], [], [], _, _, _, h => h
  | t :: ts, v :: vs, d :: ds, ps, hr, hlt, ⟨p, q, h1, h2, e⟩ => by
    subst e
    exact ⟨p, q, Below.trod hl (hr t (by simp)).1 (hr t (by simp)).2 h1 hb (fun x hx => hlt x (by simp [hx])), below_trodAll hl hb (fun t' ht' => hr t' (by simp [ht'])) (fun x hx => hlt x (by simp [hx])) h2, rfl⟩
  | [], [], _ :: _, _, _, _, h => h.elim
  | [], _ :: _, _, _, _, _, h => by cases ‹List (DataW H)› <;> exact h.elim
  | _ :: _, [], _, _, _, _, h => by cases ‹List (DataW H)› <;> exact h.elim
  | _ :: _, _ :: _, [], _, _, _, h => h.elim

/-- THE POST OF A LAW. -/
theorem law_post {H : Type} {enc : TypeId × Value → H} {P : Program} {f : Func} {s : ChangeSpec} {W W' : World} {args : Array Value} {ds gs : List (DataW H)} {before : List MemPlace}
    (hl : laidOutB P = true) (hr : ∀ t ∈ f.params.toList, P.readableRec t = true ∧ t < P.types.size) {tb : TypeId} (hres : f.resultTypes = #[tb]) (htb : P.underlying tb = some .bool)
    (hvars : s.vars = []) (hW : DataW.Whole enc P f.params.toList s.vars false W args.toList ds gs before)
    (hfn : s.fn H (ds ++ gs) = { results := [.lit (.bool true)], args := ds }) (hb : Below W.heap.size W W') :
    s.post enc P f false true false false W args (.bool true) W' := by
  have hW' := hW
  obtain ⟨p, q, hA, hV, rfl, hfz, hnd⟩ := hW
  rw [hvars] at hV
  obtain ⟨rfl, rfl⟩ := trodVars_none hV
  refine ⟨ds, [], p ++ [], [], p, [], hW', ?_, ?_, ?_, hb.frame _, fun h => by cases h⟩
  · rw [hres, hfn]
    exact trodAll_mk1 (shut_bool htb _)
  · rw [hfn]
    exact below_trodAll hl hb hr (fun x hx => by simpa using hW'.lt x (by simpa using hx)) hA
  · rw [hfn, hvars]
    exact rfl

/-! ### a row of updates that came in -/
def Ent.of (cs : List Value) : Ent := ⟨intOf (cs.getD 0 undef), intOf (cs.getD 1 undef), intOf (cs.getD 2 undef), fun i => intOf (cs.getD (3 + i.1) undef)⟩
theorem i64_of {n : Int} (h : (Lit.int .i64 n).wf = true) : I64 n := by simpa [I64, Lit.wf, IntKind.min, IntKind.max, IntKind.signed, IntKind.bits] using h
theorem u8_of {n : Int} (h : (Lit.int .u8 n).wf = true) : 0 ≤ n ∧ n < 256 := by
  have : 0 ≤ n ∧ n ≤ 255 := by simpa [Lit.wf, IntKind.min, IntKind.max, IntKind.signed, IntKind.bits] using h
  omega

theorem trod_int_wf {H : Type} {enc : TypeId × Value → H} {P : Program} {w : World} {base : Nat} {spare : Nat → Bool} {held : Bool} {fuel : Nat} {t : TypeId} {k : IntKind} {n : Int} {x : DataW H × List MemPlace}
    (ht : P.underlying t = some (.int k)) (h : DataW.trod enc P w base spare held fuel t [.int k n] = some x) : (Lit.int k n).wf = true := by
  cases fuel with
  | zero => simp [DataW.trod] at h
  | succ m =>
    unfold DataW.trod at h
    rw [ht] at h
    simp at h
    exact h.1
section
variable {H : Type} {enc : TypeId × Value → H} {w : World} {base : Nat} {spare : Nat → Bool} {held : Bool}
set_option maxRecDepth 100000 in
theorem ent_trod {n : Nat} {cs : List Value} {y : DataW H × List MemPlace} (h : DataW.trod enc Try.prog w base spare held n 44 cs = some y) : cs = (Ent.of cs).cells ∧ (Ent.of cs).Wf := by
  obtain ⟨xs, m, rfl, _, hlen, hxl, hf⟩ := DataW.trod_struct Try.underlying44 h
  have hc : Try.prog.cellsOf 44 = 19 := by kernel_rfl
  have hci : Try.prog.cellsOf 3 = 1 := by kernel_rfl
  have hcd : Try.prog.cellsOf 42 = 16 := by kernel_rfl
  have hcb : Try.prog.cellsOf 5 = 1 := by kernel_rfl
  rw [hc] at hlen
  have hx4 : xs.length = 4 := hxl
  have g0 : DataW.trod enc Try.prog w base spare held m 3 ((cs.drop 0).take (Try.prog.cellsOf 3)) = xs[0]? := hf 0 _ rfl
  have g1 : DataW.trod enc Try.prog w base spare held m 3 ((cs.drop 1).take (Try.prog.cellsOf 3)) = xs[1]? := hf 1 _ rfl
  have g2 : DataW.trod enc Try.prog w base spare held m 3 ((cs.drop 2).take (Try.prog.cellsOf 3)) = xs[2]? := hf 2 _ rfl
  have g3 : DataW.trod enc Try.prog w base spare held m 42 ((cs.drop 3).take (Try.prog.cellsOf 42)) = xs[3]? := hf 3 _ rfl
  rw [hci] at g0 g1 g2
  rw [hcd] at g3
  rw [List.getElem?_eq_getElem (by omega)] at g0 g1 g2 g3
  obtain ⟨k, e0, _⟩ := DataW.trod_int Try.underlying3 g0
  obtain ⟨l, e1, _⟩ := DataW.trod_int Try.underlying3 g1
  obtain ⟨q, e2, _⟩ := DataW.trod_int Try.underlying3 g2
  obtain ⟨ys, m', rfl, _, _, hyl, hy⟩ := DataW.trod_array Try.underlying42 g3
  have at_of : ∀ (j : Nat) (v : Value), (cs.drop j).take 1 = [v] → cs[j]? = some v := by
    intro j v h
    have := congrArg (fun l => l[0]?) h
    simpa using this
  have w0 := trod_int_wf Try.underlying3 (e0 ▸ g0)
  have w1 := trod_int_wf Try.underlying3 (e1 ▸ g1)
  have w2 := trod_int_wf Try.underlying3 (e2 ▸ g2)
  have c0 := at_of _ _ e0
  have c1 := at_of _ _ e1
  have c2 := at_of _ _ e2
  have hd : ∀ i : Nat, i < 16 → ∃ b : Int, cs[3 + i]? = some (.int .u8 b) ∧ 0 ≤ b ∧ b < 256 := by
    intro i hi
    have := hy i hi
    rw [hcb, List.getElem?_eq_getElem (by omega)] at this
    obtain ⟨b, eb, _⟩ := DataW.trod_int Try.underlying5 this
    have wb := u8_of (trod_int_wf Try.underlying5 (eb ▸ this))
    refine ⟨b, ?_, wb⟩
    have h2 := congrArg (fun l => l[0]?) eb
    simp only [List.getElem?_cons_zero] at h2
    rw [List.getElem?_take, if_pos (by omega), List.getElem?_drop, List.getElem?_take, if_pos (by omega), List.getElem?_drop] at h2
    rw [← h2]
    congr 1
    omega
  have gd : ∀ (j : Nat) (v : Value), cs[j]? = some v → cs.getD j undef = v := fun j v h => by simp [List.getD, h]
  constructor
  · apply List.ext_getElem?
    intro j
    unfold Ent.cells Ent.data Ent.of
    match j with
    | 0 => rw [List.getElem?_cons_zero, gd 0 _ c0]; exact c0
    | 1 => rw [List.getElem?_cons_succ, List.getElem?_cons_zero, gd 1 _ c1]; exact c1
    | 2 => rw [List.getElem?_cons_succ, List.getElem?_cons_succ, List.getElem?_cons_zero, gd 2 _ c2]; exact c2
    | j + 3 =>
      rw [List.getElem?_cons_succ, List.getElem?_cons_succ, List.getElem?_cons_succ, List.getElem?_ofFn]
      by_cases hj : j < 16
      · obtain ⟨b, hb, _⟩ := hd j hj
        rw [dif_pos hj]
        simp only
        rw [gd _ _ hb, Nat.add_comm j 3, hb]
        rfl
      · rw [dif_neg hj, List.getElem?_eq_none (by omega)]
  · refine ⟨?_, ?_, ?_, ?_⟩
    · show I64 (intOf _); rw [gd 0 _ c0]; exact i64_of w0
    · show I64 (intOf _); rw [gd 1 _ c1]; exact i64_of w1
    · show I64 (intOf _); rw [gd 2 _ c2]; exact i64_of w2
    · intro i
      obtain ⟨b, hb, h⟩ := hd i.1 i.2
      show 0 ≤ intOf _ ∧ intOf _ < 256
      rw [gd _ _ hb]; exact h
set_option maxRecDepth 100000 in
/-- an argument of this type -/
theorem open_ents {r : Reach} {b0 : Nat} {v : Value} {d : DataW H} {p : List MemPlace} (hv : Value.okWide Try.prog w r b0 22 v)
    (h : DataW.Trod enc Try.prog w 0 (fun _ => true) true 22 v d p) :
    ∃ (A : Option Addr) (es : List Ent) (c : Nat), v = .slice A es.length c ∧ es.length ≤ c ∧ c ≤ maxLen ∧ Sl w 0 w.heap.size 19 A (es.map Ent.arr) ∧ ∀ e ∈ es, e.Wf := by
  obtain ⟨a, len, cap, rfl⟩ := okWide_slice Try.underlying22 hv
  obtain ⟨fuel, hf⟩ := h
  rcases open_slice Try.underlying22 hf with ⟨h0, _⟩ | ⟨ad, len', cap', m, n, D, Pl, hcs, _, hl, hmx, hm, _, hi⟩
  · have h0' : a = none ∧ len = 0 ∧ cap = 0 := by simpa [Value.cells] using h0
    obtain ⟨rfl, rfl, rfl⟩ := h0'
    exact ⟨none, [], 0, rfl, Nat.le_refl _, by unfold maxLen; omega, Sl.nil, by simp⟩
  · have hcs' : a = some ad ∧ len = len' ∧ cap = cap' := by simpa [Value.cells] using hcs
    obtain ⟨rfl, rfl, rfl⟩ := hcs'
    have hc : Try.prog.cellsOf 44 = 19 := by kernel_rfl
    rw [hc] at hi
    simp only [if_true] at hm
    have hex : ∀ i, i < len → ∃ e : Ent, e.Wf ∧ (∀ j, j < 19 → w.cell? (ad.add (i * 19 + j)) = e.arr[j]?) := by
      intro i hil
      obtain ⟨cs', hcl, ht⟩ := hi i (by omega)
      obtain ⟨_, hcl2, hat⟩ := World.cells?_some hcl
      obtain ⟨he, hw⟩ := ent_trod ht
      refine ⟨Ent.of cs', hw, fun j hj => ?_⟩
      rw [← Go.Deep.add_add, hat j hj]
      have : (Ent.of cs').arr[j]? = (Ent.of cs').cells[j]? := by simp [Ent.arr]
      rw [this, ← he]
    have : ∃ f : Nat → Ent, ∀ i, i < len → (f i).Wf ∧ (∀ j, j < 19 → w.cell? (ad.add (i * 19 + j)) = (f i).arr[j]?) := by
      refine ⟨fun i => if h : i < len then Classical.choose (hex i h) else Ent.zero, fun i hi => ?_⟩
      simp only [dif_pos hi]
      exact Classical.choose_spec (hex i hi)
    obtain ⟨f, hfn⟩ := this
    refine ⟨some ad, (List.range len).map f, cap, by simp, by simpa using hl, hmx, ?_, ?_⟩
    · intro hne
      have hpos : 0 < len := by
        rcases Nat.eq_zero_or_pos len with h0 | h0
        · subst h0; simp at hne
        · exact h0
      have hsp : ad.spot = none := by
        have := (hfn 0 hpos).2 0 (by omega)
        rw [Ent.arr0] at this
        cases hs : ad.spot with
        | none => rfl
        | some s =>
          exfalso
          have h00 : ad.add (0 * 19 + 0) = ad := by simp [Addr.add]
          rw [h00] at this
          unfold World.cell? at this
          rw [hs] at this
          split at this <;> simp at this
      obtain ⟨b, o, sp⟩ := ad
      subst hsp
      refine ⟨b, o, rfl, Nat.zero_le _, ?_, fun i hi => ?_⟩
      · have := (hfn 0 hpos).2 0 (by omega)
        rw [Ent.arr0, Addr.add_mid] at this
        exact World.block_lt_of_cell? w _ this
      · simp only [List.length_map, List.length_range] at hi
        have hg : ((List.range len).map f).map Ent.arr = (List.range len).map (fun i => (f i).arr) := by simp
        simp only [List.map_map, List.getElem_map, List.getElem_range, Function.comp]
        have h19 := (f i).arr_size
        rw [← h19]
        refine rd_of_cells (by omega) (fun j hj => ?_)
        rw [h19] at hj
        have := (hfn i hi).2 j hj
        rw [Addr.add_mid, ← Nat.add_assoc] at this
        rw [h19]
        exact this
    · intro e he
      obtain ⟨i, hi, rfl⟩ := List.mem_map.1 he
      exact (hfn i (by simpa using hi)).1
end
end Go.Proofs.Ytibileffpgnjhaa.Base
/-
  RowEncodes: the walk of the law.
-/
namespace Go.Proofs.Ytibileffpgnjhaa.Base
open Go.RowKit Go.Maps Go.Proofs.YtibileffpgnjhaaW.PrintWords Go.Proofs.YtibileffpgnjhaaW.PrintLast
open Go.Proofs.Ytibileffpgnjhaa.Fld Go.Proofs.Ytibileffpgnjhaa.Pl Go.Proofs.Ytibileffpgnjhaa.Sk
set_option linter.unusedSimpArgs false
set_option linter.unusedVariables false
theorem goodE_ok {e : Ent} (h : e.Wf) : OkE (goodE e) := by
  have h1 := Int.emod_nonneg e.k (b := 4) (by omega)
  have h2 := Int.emod_lt_of_pos e.k (b := 4) (by omega)
  have h3 := Int.emod_nonneg e.l (b := 100) (by omega)
  have h4 := Int.emod_lt_of_pos e.l (b := 100) (by omega)
  have h5 := Int.emod_nonneg e.s (b := 1000) (by omega)
  have h6 := Int.emod_lt_of_pos e.s (b := 1000) (by omega)
  unfold goodE
  split
  · exact ⟨by simp, by simp, by simp; omega, fun h => absurd rfl h⟩
  · split
    · exact ⟨by simp, by simp, by simp; omega, fun _ _ => rfl⟩
    · refine ⟨h1, by simp; omega, ?_, fun _ _ => rfl⟩
      rw [if_neg (by simp; omega)]
      exact ⟨rfl, rfl⟩
theorem goodE_wf {e : Ent} (h : e.Wf) : (goodE e).Wf := by
  have h1 := Int.emod_nonneg e.k (b := 4) (by omega)
  have h2 := Int.emod_lt_of_pos e.k (b := 4) (by omega)
  have h3 := Int.emod_nonneg e.l (b := 100) (by omega)
  have h4 := Int.emod_lt_of_pos e.l (b := 100) (by omega)
  have h5 := Int.emod_nonneg e.s (b := 1000) (by omega)
  have h6 := Int.emod_lt_of_pos e.s (b := 1000) (by omega)
  have hz : ∀ i : Fin 16, 0 ≤ (fun _ : Fin 16 => (0 : Int)) i ∧ (fun _ : Fin 16 => (0 : Int)) i < 256 := fun i => ⟨by simp, by simp⟩
  unfold goodE
  split
  · exact ⟨⟨by simp, by simp⟩, ⟨by simp; omega, by simp; omega⟩, ⟨by simp; omega, by simp; omega⟩, h.2.2.2⟩
  · split
    · exact ⟨⟨by simp, by simp⟩, ⟨by simp; omega, by simp; omega⟩, ⟨by simp; omega, by simp; omega⟩, hz⟩
    · exact ⟨⟨by simp; omega, by simp; omega⟩, ⟨by simp, by simp⟩, ⟨by simp, by simp⟩, hz⟩
theorem slots_out (A : Option Addr) (c m : Nat) (mi : Int) (es es1 : List Ent) (w : World) (hmi : mi = m) (hes : es1 = (es.take m).map goodE) (hm : m ≤ 1000000) (hn : es.length ≤ c) (hc : c ≤ maxLen) (hwf : ∀ e ∈ es, e.Wf) (hs : Sl w 0 w.heap.size 19 A (es.map Ent.arr)) :
    Calls Try.prog 13 #[.slice A es.length c, .int .i64 mi] w fun x w' =>
      ∃ A' c', x = .returned (.slice A' es1.length c') ∧ es1.length ≤ c' ∧ Sl w' 0 w'.heap.size 19 A' (es1.map Ent.arr) ∧ Below w.heap.size w w' := by
  subst hmi
  have hl : es1.length = min es.length m := by rw [hes, List.length_map, List.length_take]; omega
  refine (slots_any A c m es w hm hn hc hwf hs).mono ?_
  rintro x w' ⟨⟨A', c', rfl, hc', ho⟩, hb⟩
  rw [← hl] at hc' ho ⊢
  rw [← hes] at ho
  exact ⟨A', c', rfl, hc', (ho.sl (Ent.sized _) (by omega)).less (Nat.zero_le _), hb⟩
def OutR (w : World) (v : Value) (L : List (List Int)) : Prop := ∃ base T, Rws w base v T ∧ T.map (·.2.2) = L ∧ T.length ≤ 1000
theorem OutR.below {w w' : World} {v : Value} {L : List (List Int)} (h : OutR w v L) (hb : Below w.heap.size w w') : OutR w' v L := by
  obtain ⟨base, T, h1, h2, h3⟩ := h
  exact ⟨base, T, h1.below hb, h2, h3⟩
open Classical in
noncomputable def codeE (d s u a : Int) (es : List Ent) : Int := if NumOk d s u a es.length ∧ ∀ e ∈ es, OkE e then 0 else 1
open Classical in
noncomputable def outE (d s u a : Int) (es : List Ent) : List (List Int) := if NumOk d s u a es.length ∧ ∀ e ∈ es, OkE e then fullE s u a es (d - 2).toNat else []
theorem outE_byt (d s u a : Int) (es : List Ent) (h : ∀ e ∈ es, e.Wf) : BytL (outE d s u a es) := by
  intro r hr x hx
  unfold outE at hr
  split at hr
  · have hB := rowsE_byt s u a es (d - 2).toNat h
    rcases List.mem_append.1 hr with h1 | h1
    · exact hB r h1 x hx
    · rcases List.mem_cons.1 h1 with h2 | h2
      · rw [h2] at hx; exact bytes_sumP _ _ hB x hx
      · rw [List.mem_singleton.1 h2] at hx; exact bytes_sumQ _ _ hB x hx
  · simp at hr
theorem encR_out {d s u a : Int} {es : List Ent} {w w' : World} {x : Ending} (h : EncR d s u a es w x w') : ∃ v, x = .returned (.tuple #[v, .int .i64 (codeE d s u a es)]) ∧ OutR w' v (outE d s u a es) := by
  rcases h with ⟨hok, n, A', c', T, hd, rfl, hc, hT, hL⟩ | ⟨hno, rfl⟩
  · refine ⟨_, by unfold codeE; rw [if_pos hok], _, T, hT, ?_, ?_⟩
    · unfold outE
      rw [if_pos hok, hL, hd]
      simp
    · have := congrArg List.length hL
      rw [List.length_map] at this
      rw [this]
      have h8 := hok.1.2.1
      unfold fullE
      rw [List.length_append, rowsE_len]
      simp
      omega
  · refine ⟨_, by unfold codeE; rw [if_neg hno], 0, [], Rws.nil _ _, ?_, by simp⟩
    unfold outE
    rw [if_neg hno]
    rfl
theorem same_out {w : World} {v v' : Value} {L : List (List Int)} (h : OutR w v L) (h' : OutR w v' L) (hb : BytL L) : Calls Try.prog 15 #[v, v'] w fun e w' => e = .returned (.bool true) ∧ Below w.heap.size w w' := by
  obtain ⟨b1, T1, h1, e1, l1⟩ := h
  obtain ⟨b2, T2, h2, e2, l2⟩ := h'
  obtain ⟨A1, c1, rfl, hc1, hC1⟩ := h1.C (by omega)
  obtain ⟨A2, c2, rfl, hc2, hC2⟩ := h2.C (by omega)
  have hl1 : L.length ≤ 1000000 := by rw [← e1, List.length_map]; omega
  rw [e1] at hC1 ⊢
  rw [e2] at hC2 ⊢
  refine (same_calls A1 c1 L A2 c2 L w hC1 hC2 hb hb hl1 hl1).mono ?_
  rintro e w' ⟨rfl, hd⟩
  exact ⟨by simp, hd.below⟩
theorem codeE_ok {d s u a : Int} {es : List Ent} (h : NumOk d s u a es.length) (h2 : ∀ e ∈ es, OkE e) : codeE d s u a es = 0 := if_pos ⟨h, h2⟩
theorem w11_lt (a n : Int) (ha : I64 a) (hn : 1 ≤ n) (hn2 : n ≤ 4611686018427387904) : ∃ k : Nat, (k : Int) < n ∧ ∀ w, Calls Try.prog 11 #[.int .i64 a, .int .i64 n] w fun e w' => e = .returned (.int .i64 (k : Int)) ∧ w = w' := by
  have h1 := Int.emod_nonneg a (b := n) (by omega)
  have h2 := Int.emod_lt_of_pos a (b := n) (by omega)
  refine ⟨(a % n).toNat, by omega, fun w => ?_⟩
  rw [show (((a % n).toNat : Nat) : Int) = a % n from by omega]
  exact w11_any a n w ha hn hn2
set_option maxRecDepth 100000 in
set_option maxHeartbeats 4000000 in
theorem encodes_walk (a0 a1 a2 a3 : Int) (A : Option Addr) (c : Nat) (es : List Ent) (w : World) (h0 : I64 a0) (h1 : I64 a1) (h2 : I64 a2) (h3 : I64 a3) (hc : es.length ≤ c) (hm : c ≤ maxLen) (hs : Sl w 0 w.heap.size 19 A (es.map Ent.arr)) (hwf : ∀ e ∈ es, e.Wf) :
    Calls Try.prog 3 #[.int .i64 a0, .int .i64 a1, .int .i64 a2, .int .i64 a3, .slice A es.length c] w fun e w' => e = .returned (.bool true) ∧ Below w.heap.size w w' := by
  obtain ⟨k, hk, hw0⟩ := w11_lt a0 3 h0 (by omega) (by omega)
  obtain ⟨s, hs99, hw1⟩ := w11_lt a1 99 h1 (by omega) (by omega)
  obtain ⟨u, hu, hw2⟩ := w11_lt a2 256 h2 (by omega) (by omega)
  obtain ⟨t, ht, hw3⟩ := w11_lt a3 256 h3 (by omega) (by omega)
  have hsl := fun m mi es1 => slots_out A c m mi es es1
  replace hwf := hide hwf
  go_enter Try.func3, Try.ntmps3
  go_wp2_with fail
  refine (known_any _).mono ?_
  rintro e w1 ⟨rfl, hb1⟩
  by_cases hl : es.length ≤ 12
  · have hlI : (es.length : Int) ≤ 12 := by omega
    obtain ⟨es1, hes1⟩ : ∃ es1, es1 = (es.take (4 + k)).map goodE := ⟨_, rfl⟩
    obtain ⟨es2, hes2⟩ : ∃ es2, es2 = (es.take 12).map goodE := ⟨_, rfl⟩
    have hwf1 : ∀ e ∈ es1, e.Wf := fun e he => by rw [hes1] at he; obtain ⟨f, hf, rfl⟩ := List.mem_map.1 he; exact goodE_wf ((unhide hwf) f (List.mem_of_mem_take hf))
    have hwf2 : ∀ e ∈ es2, e.Wf := fun e he => by rw [hes2] at he; obtain ⟨f, hf, rfl⟩ := List.mem_map.1 he; exact goodE_wf ((unhide hwf) f (List.mem_of_mem_take hf))
    have hok1 : ∀ e ∈ es1, OkE e := fun e he => by rw [hes1] at he; obtain ⟨f, hf, rfl⟩ := List.mem_map.1 he; exact goodE_ok ((unhide hwf) f (List.mem_of_mem_take hf))
    have hl1 : es1.length ≤ 4 + k := by rw [hes1, List.length_map, List.length_take]; omega
    have hl2 : es2.length ≤ 12 := by rw [hes2, List.length_map, List.length_take]; omega
    have hcode := hide (codeE_ok (d := 6 + (k : Int)) (s := 1 + (s : Int)) (u := u) (a := t) ⟨by omega, by omega, by omega, by omega, by omega, by omega, by omega, by omega, by omega⟩ hok1)
    replace hwf1 := hide hwf1
    replace hwf2 := hide hwf2
    replace hok1 := hide hok1
    replace hes1 := hide hes1
    replace hes2 := hide hes2
    go_wp2_with fail
    refine (hw0 _).mono ?_
    rintro e wq ⟨rfl, rfl⟩
    go_wp2_with fail
    refine (hw1 _).mono ?_
    rintro e wq ⟨rfl, rfl⟩
    go_wp2_with fail
    refine (hw2 _).mono ?_
    rintro e wq ⟨rfl, rfl⟩
    go_wp2_with fail
    refine (hw3 _).mono ?_
    rintro e wq ⟨rfl, rfl⟩
    go_wp2_with fail
    refine (hsl (4 + k) _ es1 _ (by omega) (unhide hes1) (by omega) hc hm (unhide hwf) ((hs.below hb1).more hb1.size)).mono ?_
    rintro x w2 ⟨A2, c2, rfl, hc2, hs2, hb2'⟩
    have hb2 := hb1.trans (hb2'.mono hb1.size)
    go_wp2_with fail
    refine (encode_all (6 + (k : Int)) (1 + (s : Int)) u t A2 c2 es1 _ ⟨by omega, by omega⟩ (by omega) (unhide hwf1) hc2 hs2).mono ?_
    rintro x w3 ⟨hx, hb3'⟩
    obtain ⟨v3, rfl, ho3⟩ := encR_out hx
    clear hx
    have hb3 := hb2.trans (hb3'.mono hb2.size)
    go_wp2_with fail
    refine (hw1 _).mono ?_
    rintro e wq ⟨rfl, rfl⟩
    go_wp2_with fail
    refine (hw2 _).mono ?_
    rintro e wq ⟨rfl, rfl⟩
    go_wp2_with fail
    refine (hw3 _).mono ?_
    rintro e wq ⟨rfl, rfl⟩
    go_wp2_with fail
    refine (hsl (4 + k) _ es1 _ (by omega) (unhide hes1) (by omega) hc hm (unhide hwf) ((hs.below hb3).more hb3.size)).mono ?_
    rintro x w4 ⟨A4, c4, rfl, hc4, hs4, hb4'⟩
    replace ho3 := ho3.below hb4'
    have hb4 := hb3.trans (hb4'.mono hb3.size)
    go_wp2_with fail
    refine (rencode_all (6 + (k : Int)) (1 + (s : Int)) u t A4 c4 es1 _ ⟨by omega, by omega⟩ (by omega) (unhide hwf1) hc4 hs4).mono ?_
    rintro x w5 ⟨hx, hb5'⟩
    obtain ⟨v5, rfl, ho5⟩ := encR_out hx
    clear hx
    replace ho3 := ho3.below hb5'
    have hb5 := hb4.trans (hb5'.mono hb4.size)
    go_wp2_with fail
    refine (hsl 12 _ es2 _ (by omega) (unhide hes2) (by omega) hc hm (unhide hwf) ((hs.below hb5).more hb5.size)).mono ?_
    rintro x w6 ⟨A6, c6, rfl, hc6, hs6, hb6'⟩
    replace ho3 := ho3.below hb6'
    replace ho5 := ho5.below hb6'
    have hb6 := hb5.trans (hb6'.mono hb5.size)
    go_wp2_with fail
    refine (encode_all a0 a1 a2 a3 A6 c6 es2 _ h0 (by omega) (unhide hwf2) hc6 hs6).mono ?_
    rintro x w7 ⟨hx, hb7'⟩
    obtain ⟨v7, rfl, ho7⟩ := encR_out hx
    clear hx
    replace ho3 := ho3.below hb7'
    replace ho5 := ho5.below hb7'
    have hb7 := hb6.trans (hb7'.mono hb6.size)
    go_wp2_with fail
    refine (hsl 12 _ es2 _ (by omega) (unhide hes2) (by omega) hc hm (unhide hwf) ((hs.below hb7).more hb7.size)).mono ?_
    rintro x w8 ⟨A8, c8, rfl, hc8, hs8, hb8'⟩
    replace ho3 := ho3.below hb8'
    replace ho5 := ho5.below hb8'
    replace ho7 := ho7.below hb8'
    have hb8 := hb7.trans (hb8'.mono hb7.size)
    go_wp2_with fail
    refine (rencode_all a0 a1 a2 a3 A8 c8 es2 _ h0 (by omega) (unhide hwf2) hc8 hs8).mono ?_
    rintro x w9 ⟨hx, hb9'⟩
    obtain ⟨v9, rfl, ho9⟩ := encR_out hx
    clear hx
    replace ho3 := ho3.below hb9'
    replace ho5 := ho5.below hb9'
    replace ho7 := ho7.below hb9'
    have hb9 := hb8.trans (hb9'.mono hb8.size)
    go_wp2_with fail
    refine (encode_all (6 + (k : Int)) 5 5 5 A c es _ ⟨by omega, by omega⟩ (by omega) (unhide hwf) hc ((hs.below hb9).more hb9.size)).mono ?_
    rintro x w10 ⟨hx, hb10'⟩
    obtain ⟨v10, rfl, ho10⟩ := encR_out hx
    clear hx
    replace ho3 := ho3.below hb10'
    replace ho5 := ho5.below hb10'
    replace ho7 := ho7.below hb10'
    replace ho9 := ho9.below hb10'
    have hb10 := hb9.trans (hb10'.mono hb9.size)
    go_wp2_with fail
    refine (rencode_all (6 + (k : Int)) 5 5 5 A c es _ ⟨by omega, by omega⟩ (by omega) (unhide hwf) hc ((hs.below hb10).more hb10.size)).mono ?_
    rintro x w11 ⟨hx, hb11'⟩
    obtain ⟨v11, rfl, ho11⟩ := encR_out hx
    clear hx
    replace ho3 := ho3.below hb11'
    replace ho5 := ho5.below hb11'
    replace ho7 := ho7.below hb11'
    replace ho9 := ho9.below hb11'
    have hb11 := hb10.trans (hb11'.mono hb10.size)
    go_wp2_with fail
    have hcode := unhide hcode
    refine (same_out ho3 ho5 (outE_byt _ _ _ _ _ (unhide hwf1))).mono ?_
    rintro e w12 ⟨rfl, hb12'⟩
    replace ho7 := ho7.below hb12'
    replace ho9 := ho9.below hb12'
    have hb12 := hb11.trans (hb12'.mono hb11.size)
    go_wp2_with fail
    refine (same_out ho7 ho9 (outE_byt _ _ _ _ _ (unhide hwf2))).mono ?_
    rintro e w13 ⟨rfl, hb13'⟩
    have hb13 := hb12.trans (hb13'.mono hb12.size)
    go_wp2_with fail
    go_ret
    exact ⟨rfl, hb13⟩
  · have hlI : ¬ (es.length : Int) ≤ 12 := by omega
    go_wp2_with fail
    go_ret
    exact ⟨rfl, hb1⟩
end Go.Proofs.Ytibileffpgnjhaa.Base
