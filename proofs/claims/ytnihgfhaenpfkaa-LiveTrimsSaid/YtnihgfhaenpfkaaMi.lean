/-
  Superblocks that are being made: what is kept, one row more.
-/
import Derived.Test.YtnihgfhaenpfkaaIn
namespace Go.Proofs.Ytnihgfhaenpfkaa.Base
open Go.RowKit Go.Proofs.YtnihgfhaenpfkaaW.PrintWords Go.Proofs.YtnihgfhaenpfkaaW.PrintLast
set_option linter.unusedSimpArgs false
set_option linter.unusedVariables false
attribute [local go_sem] Ent.arr0 Ent.arr1 Ent.arr2 Ent.set1 Ent.set2 Ent.arr_size Ent.okW Ent.lit run_ldV_ent run_stV_ent ldR_some stR_true rd_new_whole rd_alloc canW_new canW_alloc wr_new wr_alloc rd_drew rd_drewN canW_drew canW_drewN run_bsS_ent run_bsS_ent0 run_eqI_ent rd_setCell rd_setCell_same canW_setCell' Option.map_some cell_wr_other rd_wr_same rd_wr_other
attribute [local go_sem ↓] ldV_ent stV_ent bsS_ent eqI_ent
attribute [local go_sem] Ent.arr0g Ent.arr1g Ent.arr2g run_ldV_dat rd_dat run_eqI_dat dat_lit
attribute [local go_sem ↓] ldV_dat eqI_dat
/-- a piece of code of which all ways end alike -/
theorem wp_once {P : Program} {c : Code} {Q : Exit → Act → World → Prop} {a : Act} {w : World} (A1 : Act) (W1 : World) (hreg : c.wp P (fun e a w => e = .normal ∧ a = A1 ∧ w = W1) a w) (h : Q .normal A1 W1) : c.wp P Q a w :=
  Code.wp_mono (fun e a w h' => by obtain ⟨rfl, rfl, rfl⟩ := h'; exact h) hreg
structure RawD where
  su : Int
  se : Int
  at_ : Int
  A : Option Addr
  c : Nat
  es : List Ent
def RawD.arr (r : RawD) : Array Value := #[.int .i64 r.su, .int .i64 r.se, .int .i64 r.at_, .slice r.A r.es.length r.c]
def RawD.Wf (r : RawD) : Prop := I64 r.su ∧ I64 r.se ∧ I64 r.at_ ∧ r.es.length ≤ r.c ∧ ∀ e ∈ r.es, e.Wf
def Raws (w : World) (B : Nat) (A : Option Addr) (L : List RawD) : Prop :=
  Sl w 0 B 4 A (L.map RawD.arr) ∧ ∀ r ∈ L, Sl w 0 B 19 r.A (r.es.map Ent.arr)
/-- a slot as it is made -/
def OkS (e : Ent) : Prop := Cnt e → 1 ≤ e.s
def zeros5 : Array Value := #[.int .i64 0, .slice none 0 0, .int .i64 0, .slice none 0 0, .int .i64 0, .slice none 0 0, .int .i64 0, .slice none 0 0, .int .i64 0, .slice none 0 0]
theorem run_mk5 (w : World) : (Instr.makeSlice 25 (.int .i64 5) (.int .i64 5)).run Try.prog w = .ok (.slice (some ⟨w.heap.size, 0, none⟩) 5 5) (w.alloc (.cells zeros5 43)) := by kernel_rfl
attribute [local go_sem] run_mk5
/-- a row that the call owns -/
def RowOk (w : World) (base : Nat) (r : RowD) : Prop := r.es.length ≤ 6 ∧ (∀ e ∈ r.es, OkS e) ∧ Ow w base 37 19 (.slice r.A r.es.length r.c) (r.es.map Ent.arr)
def SupOk (w : World) (base : Nat) (s : SupD) : Prop := Ow w base 47 3 (.slice s.A s.rs.length s.c) (s.rs.map RowD.arr) ∧ ∀ r ∈ s.rs, RowOk w base r
structure MkI (w : World) (BO n : Nat) (S : List SupD) (W : World) : Prop where
  b : Below w.heap.size w W
  len : S.length = 5
  arr : Arr W BO 43 2 (S.map SupD.arr)
  ok : ∀ s ∈ S, s.rs.length ≤ n ∧ SupOk W w.heap.size s
  apart : ∀ (i j : Nat) (hi : i < S.length) (hj : j < S.length), i ≠ j → ∀ g, (Value.slice S[i].A S[i].rs.length S[i].c).ownBlock = some g → (Value.slice S[j].A S[j].rs.length S[j].c).ownBlock ≠ some g
theorem Ow.mv {w w' : World} {base : Nat} {e : TypeId} {sz : Nat} {v : Value} {xs : List (Array Value)} (h : Ow w base e sz v xs) (hm : ∀ k, v.ownBlock = some k → w'.heap[k]? = w.heap[k]?) : Ow w' base e sz v xs := by
  refine ⟨h.1, ?_⟩
  rcases h.2 with h0 | ⟨g, cap, cur, rfl, h1, h2, h3⟩
  · exact .inl h0
  · exact .inr ⟨g, cap, cur, rfl, h1, (hm g rfl).trans h2, h3⟩
theorem Ow.tag {w : World} {base : Nat} {e : TypeId} {sz : Nat} {v : Value} {xs : List (Array Value)} (h : Ow w base e sz v xs) {g : Nat} (hg : v.ownBlock = some g) : ∃ cs, w.heap[g]? = some (.cells cs e (0, 0)) := by
  rcases h.2 with ⟨rfl, _⟩ | ⟨g', cap, cur, rfl, h1, h2, h3⟩
  · simp [Value.ownBlock] at hg
  · simp only [Value.ownBlock, Option.some.injEq] at hg
    subst hg
    exact ⟨_, h2⟩
theorem RowOk.mv {w w' : World} {base : Nat} {r : RowD} (h : RowOk w base r) (hm : ∀ (k : Nat) (cs : Array Value), w.heap[k]? = some (.cells cs 37 (0, 0)) → w'.heap[k]? = w.heap[k]?) : RowOk w' base r :=
  ⟨h.1, h.2.1, h.2.2.mv fun k hk => by obtain ⟨cs, hcs⟩ := h.2.2.tag hk; exact hm k cs hcs⟩
theorem MkI.below {w : World} {BO n : Nat} {S : List SupD} {W W' : World} (h : MkI w BO n S W) (hb : Below W.heap.size W W') : MkI w BO n S W' := by
  refine ⟨h.b.trans (hb.mono h.b.size), h.len, h.arr.mv (hb.block _ h.arr.lt), fun s hs => ⟨(h.ok s hs).1, (h.ok s hs).2.1.mv (fun k hk => hb.block k ((h.ok s hs).2.1.lt k hk).2), fun r hr => ((h.ok s hs).2.2 r hr).mv (fun k cs hk => hb.block k (Array.getElem?_eq_some_iff.1 hk).1)⟩, h.apart⟩
theorem info_row3 : (Try.prog.info? 47).map (fun i => (i.zero, i.size, i.bytes)) = some (some (.agg #[.int .i64 0, .int .i64 0, .slice none 0 0]), 3, 40) := by kernel_rfl
theorem run_append_row (w : World) (base n : Nat) (v : Value) (rs : List RowD) (r : RowD) (b : Nat) (hown : Ow w base 47 3 v (rs.map RowD.arr)) (hn : rs.length = n) (hc : w.heap[b]? = some (.cells r.arr 47 (0, 0))) (hsm : n ≤ 100000) (hbase : base ≤ w.heap.size) (ty : TypeId) :
    ∃ A' c' w', (Builtin.append_ #[41, 41] ty #[v, .slice (some ⟨b, 0, none⟩) 1 1]).run Try.prog w = .ok (.slice A' (n + 1) c') w' ∧ Ow w' base 47 3 (.slice A' (n + 1) c') ((rs ++ [r]).map RowD.arr) ∧ w.grownBy w' v.ownBlock ∧ n + 1 ≤ c' ∧
      ((Value.slice A' (n + 1) c').ownBlock = v.ownBlock ∨ (Value.slice A' (n + 1) c').ownBlock = some w.heap.size) := by
  obtain ⟨i0, hi0, hz0, hz1, hz2⟩ := info_parts info_row3
  have hown' : w.ownsRow base 47 3 v n (flat (rs.map RowD.arr)) := by have := hown; unfold Ow at this; rw [List.length_map, hn] at this; exact this
  obtain ⟨v', w', hrun, h2, h3, _, h5⟩ := run_append_own_at (P := Try.prog) w base 41 ty 47 i0 _ 3 40 Try.underlying41 hi0 hz0 hz1 hz2 rfl (by omega) v n (flat (rs.map RowD.arr)) hown' ⟨b, 0, none⟩ 1 1 r.arr.toList rfl
    (fun j u hu => by rw [Addr.add_mid]; simp only [Nat.zero_add]; simpa [World.cell?, hc] using hu) (fun u hu => by
      simp only [RowD.arr, List.mem_cons, List.not_mem_nil, or_false] at hu
      rcases hu with rfl | rfl | rfl <;> rfl) (by unfold maxLen; omega) (by omega) hbase
  have ho' : Ow w' base 47 3 v' ((rs ++ [r]).map RowD.arr) := by
    unfold Ow
    rw [List.length_map, List.length_append, hn, List.map_append, flat_append]
    simpa [flat] using h2
  obtain ⟨A', c', hv, hc', _⟩ := ho'.form
  rw [List.length_map, List.length_append, hn] at hv hc'
  subst hv
  exact ⟨A', c', w', hrun, ho', h3, hc', h5⟩
theorem MkI.push {w : World} {BO i : Nat} {S : List SupD} {W : World} (hI : MkI w BO i S W) (hBO : w.heap.size ≤ BO) (k : Nat) (hk : k < S.length) (rD : RowD) (hr : RowOk W w.heap.size rD) (W2 w4 : World) (A4 : Option Addr) (c4 : Nat)
    (hz2 : W.heap.size ≤ W2.heap.size) (h2 : ∀ j, j < W.heap.size → W2.heap[j]? = (W.setCell ⟨BO, k * 2, none⟩ (.int .i64 1)).heap[j]?) (hb2 : Below w.heap.size w W2)
    (ho4 : Ow w4 w.heap.size 47 3 (.slice A4 (S[k].rs.length + 1) c4) ((S[k].rs ++ [rD]).map RowD.arr)) (hg4 : W2.grownBy w4 (Value.slice S[k].A S[k].rs.length S[k].c).ownBlock)
    (hown : (Value.slice A4 (S[k].rs.length + 1) c4).ownBlock = (Value.slice S[k].A S[k].rs.length S[k].c).ownBlock ∨ (Value.slice A4 (S[k].rs.length + 1) c4).ownBlock = some W2.heap.size) :
    MkI w BO (i + 1) (S.set k ⟨1, A4, c4, S[k].rs ++ [rD]⟩) (w4.setCell ⟨BO, k * 2 + 1, none⟩ (.slice A4 (S[k].rs.length + 1) c4)) := by
  have hsk := (hI.ok S[k] (List.getElem_mem hk)).2.1
  have nBO : ∀ (j : Nat) (cs : Array Value) (t : TypeId), W.heap[j]? = some (.cells cs t (0, 0)) → t ≠ 43 → j ≠ BO := fun j cs t hj ht => blk_ne hj hI.arr.hp ht
  have key : ∀ (j : Nat) (cs : Array Value) (t : TypeId), W.heap[j]? = some (.cells cs t (0, 0)) → t ≠ 43 → some j ≠ (Value.slice S[k].A S[k].rs.length S[k].c).ownBlock → (w4.setCell ⟨BO, k * 2 + 1, none⟩ (.slice A4 (S[k].rs.length + 1) c4)).heap[j]? = W.heap[j]? := fun j cs t hj ht hn => by
    have hlt := (Array.getElem?_eq_some_iff.1 hj).1
    have hnb := nBO j cs t hj ht
    exact (Below.heap_setCell _ _ _ _ hnb).trans ((hg4.block j (by omega) hn).trans ((h2 j hlt).trans (Below.heap_setCell _ _ _ _ hnb)))
  have nO : ∀ (j : Nat) (cs : Array Value) (t : TypeId), W.heap[j]? = some (.cells cs t (0, 0)) → t ≠ 47 → some j ≠ (Value.slice S[k].A S[k].rs.length S[k].c).ownBlock := fun j cs t hj ht e => by
    obtain ⟨cs', hcs'⟩ := hsk.tag e.symm
    rw [hj] at hcs'
    injection hcs' with hcs'
    injection hcs' with _ h3 _
    exact ht h3
  have keyE : ∀ (j : Nat) (cs : Array Value), W.heap[j]? = some (.cells cs 37 (0, 0)) → (w4.setCell ⟨BO, k * 2 + 1, none⟩ (.slice A4 (S[k].rs.length + 1) c4)).heap[j]? = W.heap[j]? := fun j cs hj => key j cs _ hj (by decide) (nO j cs _ hj (by decide))
  have hBOz := hI.arr.lt
  have hA2 : Arr W2 BO 43 2 ((S.map SupD.arr).set k (#[.int .i64 1, .slice S[k].A S[k].rs.length S[k].c])) := by
    have := hI.arr.setCell (k := k) (m := 0) (by simpa using hk) (by omega) (.int .i64 1)
    simp only [List.getElem_map] at this
    exact this.mv (h2 BO hBOz)
  have hA4 : Arr w4 BO 43 2 ((S.map SupD.arr).set k (#[.int .i64 1, .slice S[k].A S[k].rs.length S[k].c])) := hA2.mv (hg4.block BO (by omega) (nO BO _ _ hI.arr.hp (by decide)))
  have hAF : Arr (w4.setCell ⟨BO, k * 2 + 1, none⟩ (.slice A4 (S[k].rs.length + 1) c4)) BO 43 2 ((S.set k ⟨1, A4, c4, S[k].rs ++ [rD]⟩).map SupD.arr) := by
    have := hA4.setCell (k := k) (m := 1) (by simpa using hk) (by omega) (.slice A4 (S[k].rs.length + 1) c4)
    rw [List.getElem_set_self, List.set_set] at this
    rw [List.map_set]
    have e : (⟨1, A4, c4, S[k].rs ++ [rD]⟩ : SupD).arr = #[.int .i64 1, .slice S[k].A S[k].rs.length S[k].c].setIfInBounds 1 (.slice A4 (S[k].rs.length + 1) c4) := by simp [SupD.arr]
    rw [e]
    exact this
  have hoF : Ow (w4.setCell ⟨BO, k * 2 + 1, none⟩ (.slice A4 (S[k].rs.length + 1) c4)) w.heap.size 47 3 (.slice A4 (S[k].rs.length + 1) c4) ((S[k].rs ++ [rD]).map RowD.arr) := ho4.mv (fun j hj => by
    obtain ⟨cs, hcs⟩ := ho4.tag hj
    exact Below.heap_setCell _ _ _ _ (blk_ne hcs hA4.hp (by decide)))
  refine ⟨(below_grown hb2 hg4 (by have := hI.b.size; omega) (fun g e => (hsk.lt g e).1)).setCell hBO _, by rw [List.length_set]; exact hI.len, hAF, fun s hs => ?_, fun a b ha hb hab g hg => ?_⟩
  · rcases List.mem_iff_getElem.1 hs with ⟨j, hj, rfl⟩
    rw [List.length_set] at hj
    by_cases hjk : k = j
    · subst hjk
      rw [List.getElem_set_self]
      refine ⟨by have := (hI.ok S[k] (List.getElem_mem hk)).1; simp; omega, by simpa using hoF, fun r' hr' => ?_⟩
      rcases List.mem_append.1 hr' with h | h
      · exact ((hI.ok S[k] (List.getElem_mem hk)).2.2 r' h).mv keyE
      · rw [List.mem_singleton.1 h]; exact hr.mv keyE
    · rw [List.getElem_set_ne hjk]
      have hoj := hI.ok S[j] (List.getElem_mem hj)
      refine ⟨by omega, hoj.2.1.mv (fun g hg => ?_), fun r' hr' => (hoj.2.2 r' hr').mv keyE⟩
      obtain ⟨cs, hcs⟩ := hoj.2.1.tag hg
      exact key g cs _ hcs (by decide) (fun e => hI.apart k j hk hj hjk g e.symm hg)
  · rw [List.length_set] at ha hb
    have fresh : ∀ j (hj : j < S.length), j ≠ k → ∀ g, (Value.slice S[j].A S[j].rs.length S[j].c).ownBlock = some g → (Value.slice A4 (S[k].rs.length + 1) c4).ownBlock ≠ some g := fun j hj hjk g hg e => by
      rcases hown with h | h
      · rw [h] at e; exact hI.apart j k hj hk hjk g hg e
      · rw [h] at e
        injection e with e
        have := ((hI.ok S[j] (List.getElem_mem hj)).2.1.lt g hg).2
        omega
    by_cases hak : k = a
    · subst hak
      rw [List.getElem_set_self] at hg
      rw [List.getElem_set_ne hab]
      intro e
      exact fresh b hb (Ne.symm hab) g e (by simpa using hg)
    · rw [List.getElem_set_ne hak] at hg
      by_cases hbk : k = b
      · subst hbk
        rw [List.getElem_set_self]
        intro e
        exact fresh a ha hab g hg (by simpa using e)
      · rw [List.getElem_set_ne hbk]
        exact hI.apart a b ha hb hab g hg
end Go.Proofs.Ytnihgfhaenpfkaa.Base
