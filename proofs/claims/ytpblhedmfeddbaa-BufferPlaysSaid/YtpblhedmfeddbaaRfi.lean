/-
  The document's Find (ramekinref17).
-/
import Derived.Test.YtpblhedmfeddbaaKno
namespace Go.Proofs.Ytpblhedmfeddbaa.Base
open Go.RowKit
set_option linter.unusedSimpArgs false
set_option linter.unusedVariables false
attribute [local go_sem] Ent.arr0 Ent.arr1 Ent.arr2 Ent.set1 Ent.set2 Ent.arr_size Ent.okW Ent.lit run_ldV_ent run_stV_ent ldR_some stR_true rd_new_whole rd_alloc canW_new canW_alloc wr_new wr_alloc rd_drew rd_drewN canW_drew canW_drewN run_bsS_ent
attribute [local go_sem ↓] ldV_ent stV_ent bsS_ent
set_option maxHeartbeats 400000 in
theorem rfind_any (A : Option Addr) (c : Nat) (next lba : Int) (w : World) (es : List Ent) (hn : es.length ≤ 1000000) (hs : Sl w 0 w.heap.size 19 A (es.map Ent.arr)) :
    Calls Try.prog 20 #[.agg #[.slice A es.length c, .int .i64 next], .int .i64 lba] w fun e w' =>
      e = .returned (.tuple #[.agg (findE es lba).1.arr, .bool (findE es lba).2]) ∧ Below w.heap.size w w' := by
  go_enter Try.func20, Try.ntmps20
  go_wp2
  go_loop [6] (fun i => ∃ k : Nat, k ≤ es.length ∧ i = .int .i64 ((k : Int) - 1) ∧ ∀ j (hj : j < es.length), k ≤ j → es[j].l ≠ lba) (fun i => (intOf i + 1).toNat)
  case atStart => exact ⟨es.length, by omega, rfl, fun j hj h => by omega⟩
  case round =>
    obtain ⟨k, hk, rfl, hno⟩ := hrel
    by_cases hk0 : k = 0
    · subst hk0
      have hf := hide (findE_none es lba (fun j hj => hno j hj (by omega)))
      clear hno
      go_wp2
      refine bodyPost_ret (results_ct Try.results20 Try.underlying29 rfl info_ent (cs := Ent.zero.arr) rfl (rd_new_whole _ _ _ _ _ _ (by simp) (Ent.arr_size _).symm)) rfl ?_
      rw [(unhide hf)]
      exact ⟨rfl, ((Below.refl _ w).alloc (Nat.le_refl _) _).alloc (by simp) _⟩
    · obtain ⟨k, rfl⟩ : ∃ m, k = m + 1 := ⟨k - 1, by omega⟩
      have e1 : ((k + 1 : Nat) : Int) - 1 = (k : Int) := by omega
      rw [e1]
      obtain ⟨b, o, rfl, _, hlt, hr⟩ := hs.at_ (k := k) (by simp; omega)
      have hc1 := rd_cell hr 1 (by omega)
      simp only [List.getElem_map, Ent.arr1] at hr hc1
      by_cases hl : es[k].l = lba
      · have hf := hide (findE_some es lba k (by omega) hl (fun j hj h => hno j hj (by omega)))
        clear hno
        subst hl
        go_wp2
        refine bodyPost_ret (results_ct Try.results20 Try.underlying29 rfl info_ent (cs := es[k].arr) rfl (rd_new_whole _ _ _ _ _ _ (by simp) (Ent.arr_size _).symm)) rfl ?_
        rw [(unhide hf)]
        exact ⟨rfl, ((Below.refl _ w).alloc (Nat.le_refl _) _).alloc (by simp) _⟩
      · replace hno := hide hno
        go_wp2
        refine ⟨⟨k, by omega, rfl, ?_⟩, by simp [intOf]⟩
        intro j hj hkj
        by_cases e : j = k
        · subst e; exact hl
        · exact (unhide hno) j hj (by omega)
theorem rfind_n (A : Option Addr) (n c : Nat) (next lba : Int) (w : World) (es : List Ent) (he : es.length = n) (hn : n ≤ 1000000) (hs : Sl w 0 w.heap.size 19 A (es.map Ent.arr)) :
    Calls Try.prog 20 #[.agg #[.slice A n c, .int .i64 next], .int .i64 lba] w fun e w' =>
      e = .returned (.tuple #[.agg (findE es lba).1.arr, .bool (findE es lba).2]) ∧ Below w.heap.size w w' := by
  subst he
  exact rfind_any A c next lba w es hn hs
set_option maxHeartbeats 1000000 in
theorem rnew_any (n : Int) (w : World) : Calls Try.prog 19 #[.int .i64 n] w fun e w' => e = .returned (.agg #[.slice none 0 0, .int .i64 n]) ∧ Below w.heap.size w w' := by
  go_enter Try.func19, Try.ntmps19
  go_wp2
  refine bodyPost_ret (results_c Try.results19 Try.underlying41 rfl info_buf2 (cs := #[.slice none 0 0, .int .i64 n]) rfl (rd_new_whole _ _ _ _ _ _ (by simp) rfl)) rfl ?_
  exact ⟨rfl, (Below.refl _ _).alloc (Nat.le_refl _) _⟩
/-- what is run, in just this world -/
theorem app_ex {P : Program} {X X' : Sem Value} {W w1 : World} {v : Value} {K : Value → World → Prop} (hrun : X'.run P W = .ok v w1) (hX : X = X') (h : K v w1) : ∃ v w', X.run P W = .ok v w' ∧ K v w' :=
  ⟨v, w1, hX ▸ hrun, h⟩
theorem Ow.set_other {w : World} {base : Nat} {e t : TypeId} {sz : Nat} {v : Value} {xs : List (Array Value)} {cs : Array Value} (h : Ow w base e sz v xs) {p : Addr} (hp : w.heap[p.block]? = some (.cells cs t (0, 0))) (ht : t ≠ e) (u : Value) : Ow (w.setCell p u) base e sz v xs := by
  refine ⟨h.1, ?_⟩
  rcases h.2 with h0 | ⟨g, cap, cur, rfl, h1, h2, h3⟩
  · exact .inl h0
  · refine .inr ⟨g, cap, cur, rfl, h1, (Below.heap_setCell w p u g ?_).trans h2, h3⟩
    intro e2
    subst e2
    have := hp.symm.trans h2
    injection this with this
    injection this with _ h4 _
    exact ht h4
theorem Ow.less {w : World} {base base' : Nat} {e : TypeId} {sz : Nat} {v : Value} {xs : List (Array Value)} (h : Ow w base e sz v xs) (hb : base' ≤ base) : Ow w base' e sz v xs := by
  refine ⟨h.1, ?_⟩
  rcases h.2 with h0 | ⟨g, cap, cur, rfl, h1, h2, h3⟩
  · exact .inl h0
  · exact .inr ⟨g, cap, cur, rfl, by omega, h2, h3⟩
end Go.Proofs.Ytpblhedmfeddbaa.Base
