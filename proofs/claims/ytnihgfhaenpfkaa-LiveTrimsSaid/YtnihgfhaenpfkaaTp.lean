/-
  Trims, plainly: rows that were put ahead of the others, one by one.
-/
import Derived.Test.YtnihgfhaenpfkaaLt
namespace Go.Proofs.Ytnihgfhaenpfkaa.Base
open Go.RowKit
set_option linter.unusedSimpArgs false
set_option linter.unusedVariables false
/-- which rows stand in superblock k, behind i rounds of n -/
def JS (n k i : Nat) : List Nat := (List.range i).reverse.filter fun j => decide ((n - j) % 2 = k)
theorem JS_mem {n k i j : Nat} : j ∈ JS n k i ↔ j < i ∧ (n - j) % 2 = k := by simp [JS]
theorem JS_succ (n k i : Nat) : JS n k (i + 1) = if (n - i) % 2 = k then i :: JS n k i else JS n k i := by
  unfold JS
  rw [List.range_succ, List.reverse_append, List.reverse_singleton, List.singleton_append, List.filter_cons]
  by_cases h : (n - i) % 2 = k <;> simp [h]
theorem JS_len (n k i : Nat) : (JS n k i).length ≤ i := by
  unfold JS
  refine Nat.le_trans (List.length_filter_le _ _) ?_
  simp
theorem best_top (k M : Int) : ∀ (l : List U) (o : Option U), ((∃ x, o = some x ∧ x.e.s = M) ∨ ∃ u ∈ l, u.e.l = k ∧ u.e.s = M) → (∀ x, o = some x → x.e.s ≤ M) → (∀ v ∈ l, v.e.s ≤ M) → ∃ u', l.foldl (bstep k) o = some u' ∧ u'.e.s = M
  | [], o, h, _, _ => by
    rcases h with ⟨x, h, hx⟩ | ⟨u, h, _⟩
    · exact ⟨x, h, hx⟩
    · simp at h
  | v :: l, o, h, ho, hv => by
    rw [List.foldl_cons]
    have hvM := hv v (by simp)
    refine best_top k M l _ ?_ (fun x hx => ?_) (fun y hy => hv y (by simp [hy]))
    · rcases h with ⟨x, rfl, hx⟩ | ⟨u, hu, huk, hus⟩
      · left
        unfold bstep
        split
        · rename_i hc
          have h2 := hc.2
          unfold newer at h2
          dsimp only at h2
          exact ⟨v, rfl, by omega⟩
        · exact ⟨x, rfl, hx⟩
      · rcases List.mem_cons.1 hu with e | hu
        · subst e
          left
          cases o with
          | none => exact ⟨u, by unfold bstep; rw [if_pos ⟨huk, trivial⟩], hus⟩
          | some x =>
            have := ho x rfl
            by_cases hxs : x.e.s = M
            · unfold bstep
              split
              · exact ⟨u, rfl, hus⟩
              · exact ⟨x, rfl, hxs⟩
            · exact ⟨u, by unfold bstep; rw [if_pos ⟨huk, .inl (by omega)⟩], hus⟩
        · exact .inr ⟨u, hu, huk, hus⟩
    · unfold bstep at hx
      split at hx
      · injection hx with hx; subst hx; exact hvM
      · exact ho x hx
theorem fm_len {α : Type} (f : Nat → List α) (B : Nat) : ∀ m : Nat, (∀ j, j < m → (f j).length ≤ B) → ((List.range m).flatMap f).length ≤ m * B
  | 0, _ => by simp
  | m + 1, h => by
    rw [List.range_succ, List.flatMap_append, List.length_append]
    have h1 := fm_len f B m (fun j hj => h j (by omega))
    have h2 := h m (by omega)
    simp only [List.flatMap_cons, List.flatMap_nil, List.append_nil]
    rw [Nat.succ_mul]
    omega
section
variable {n : Nat} {lba : Int} {E : Nat → Ent} {S : List SupD} (hn : n ≤ 20) (hS : S.length = 2) (hE : ∀ j, Cnt (E j) ∧ (E j).l = lba ∧ (E j).s = (j : Int) + 1)
  (hR : ∀ (k : Nat) (hk : k < S.length), S[k].rs.map (fun r => (r.ser, r.es)) = (JS n k n).map fun j : Nat => ((j : Int) + 1, [Ent.zero, E j]))
include hn hS hE hR
theorem tr_row {k jj : Nat} (hk : k < S.length) (hj : jj < S[k].rs.length) : ∃ j : Nat, j < n ∧ (n - j) % 2 = k ∧ S[k].rs[jj].ser = (j : Int) + 1 ∧ S[k].rs[jj].es = [Ent.zero, E j] := by
  have _ := hn
  have _ := hS
  have _ := hE
  have h1 := congrArg (fun l => l[jj]?) (hR k hk)
  have hl : jj < (JS n k n).length := by have := congrArg List.length (hR k hk); simp only [List.length_map] at this; omega
  simp only [List.getElem?_map, List.getElem?_eq_getElem hj, List.getElem?_eq_getElem hl, Option.map_some, Option.some.injEq, Prod.mk.injEq] at h1
  have h2 := JS_mem.1 (List.getElem_mem hl)
  exact ⟨_, h2.1, h2.2, h1.1, h1.2⟩
theorem tr_mem {u : U} (hu : u ∈ ups S) : ∃ j : Nat, j < n ∧ u.e = E j ∧ u.p.su = (((n - j) % 2 : Nat) : Int) ∧ u.p.sl = 1 ∧ u.e.l = lba ∧ u.e.s = (j : Int) + 1 := by
  obtain ⟨i, hi, h1⟩ := List.mem_flatMap.1 hu
  have hi := List.mem_range.1 hi
  obtain ⟨jj, m, hj, hm, h2⟩ := upR_mem h1
  rw [getD_in hi] at hj hm h2
  rw [getD_in hj] at hm h2
  obtain ⟨j, g1, g2, g3, g4⟩ := tr_row hn hS hE hR hi hj
  unfold up1 at h2
  rw [g4] at hm h2
  have hm2 : m < 2 := by simpa using hm
  match m, hm2, h2 with
  | 0, _, h2 =>
    rw [if_neg (by simp [Cnt, Ent.zero])] at h2
    simp at h2
  | 1, _, h2 =>
    have e1 : ([Ent.zero, E j] : List Ent).getD 1 Ent.zero = E j := rfl
    rw [e1, if_pos (hE j).1] at h2
    rw [List.mem_singleton.1 h2]
    exact ⟨j, g1, rfl, by show (i : Int) = _; rw [← g2], rfl, (hE j).2.1, (hE j).2.2⟩
theorem tr_has {j : Nat} (hj : j < n) : ∃ u ∈ ups S, u.e = E j ∧ u.ser = (j : Int) + 1 := by
  have _ := hn
  obtain ⟨k, hk⟩ : ∃ k, k = (n - j) % 2 := ⟨_, rfl⟩
  have hk2 : k < S.length := by omega
  obtain ⟨jj, hl, hjj⟩ := List.mem_iff_getElem.1 (JS_mem.2 ⟨hj, hk.symm⟩ : j ∈ JS n k n)
  have hlr : jj < S[k].rs.length := by have := congrArg List.length (hR k hk2); simp only [List.length_map] at this; omega
  have h1 := congrArg (fun l => l[jj]?) (hR k hk2)
  simp only [List.getElem?_map, List.getElem?_eq_getElem hlr, List.getElem?_eq_getElem hl, Option.map_some, Option.some.injEq, Prod.mk.injEq, hjj] at h1
  have hu1 : up1 k S[k].rs[jj] 1 = [⟨E j, ⟨k, S[k].rs[jj].at_, 1⟩, S[k].rs[jj].ser⟩] := by
    unfold up1
    rw [h1.2]
    have e1 : ([Ent.zero, E j] : List Ent).getD 1 Ent.zero = E j := rfl
    rw [e1, if_pos (hE j).1]
    rfl
  refine ⟨⟨E j, ⟨k, S[k].rs[jj].at_, 1⟩, S[k].rs[jj].ser⟩, ?_, rfl, h1.1⟩
  refine List.mem_flatMap.2 ⟨k, List.mem_range.2 hk2, ?_⟩
  rw [getD_in hk2]
  refine List.mem_flatMap.2 ⟨jj, List.mem_range.2 hlr, ?_⟩
  rw [getD_in hlr]
  refine List.mem_flatMap.2 ⟨1, List.mem_range.2 (by rw [h1.2]; show 1 < 2; omega), ?_⟩
  rw [hu1]
  simp
theorem tr_max : maxL 0 ((ups S).map fun u => u.e.s) = n := by
  refine maxL_is n _ 0 (by omega) (fun x hx => ?_) ?_
  · obtain ⟨u, hu, rfl⟩ := List.mem_map.1 hx
    obtain ⟨j, h1, _, _, _, _, h2⟩ := tr_mem hn hS hE hR hu
    rw [h2]; omega
  · rcases Nat.eq_zero_or_pos n with h | h
    · exact .inl (by omega)
    · obtain ⟨u, hu, he, _⟩ := tr_has hn hS hE hR (j := n - 1) (by omega)
      exact .inr (List.mem_map.2 ⟨u, hu, by rw [he, (hE _).2.2]; omega⟩)
theorem tr_ser : maxL 0 (serT S S.length) = n := by
  have hm : ∀ x, x ∈ serT S S.length ↔ ∃ (k : Nat) (hk : k < S.length) (jj : Nat) (hj : jj < S[k].rs.length), x = S[k].rs[jj].ser := fun x => by
    unfold serT
    rw [List.mem_flatMap]
    constructor
    · rintro ⟨k, hk, hx⟩
      have hk := List.mem_range.1 hk
      rw [getD_in hk] at hx
      obtain ⟨r, hr, rfl⟩ := List.mem_map.1 hx
      obtain ⟨jj, hj, rfl⟩ := List.mem_iff_getElem.1 hr
      exact ⟨k, hk, jj, hj, rfl⟩
    · rintro ⟨k, hk, jj, hj, rfl⟩
      refine ⟨k, List.mem_range.2 hk, ?_⟩
      rw [getD_in hk]
      exact List.mem_map.2 ⟨_, List.getElem_mem hj, rfl⟩
  refine maxL_is n _ 0 (by omega) (fun x hx => ?_) ?_
  · obtain ⟨k, hk, jj, hj, rfl⟩ := (hm x).1 hx
    obtain ⟨j, h1, _, h2, _⟩ := tr_row hn hS hE hR hk hj
    rw [h2]; omega
  · rcases Nat.eq_zero_or_pos n with h | h
    · exact .inl (by omega)
    · right
      obtain ⟨k, hk⟩ : ∃ k, k = (n - (n - 1)) % 2 := ⟨_, rfl⟩
      have hk2 : k < S.length := by omega
      obtain ⟨jj, hl, hjj⟩ := List.mem_iff_getElem.1 (JS_mem.2 ⟨by omega, hk.symm⟩ : n - 1 ∈ JS n k n)
      have hlr : jj < S[k].rs.length := by have := congrArg List.length (hR k hk2); simp only [List.length_map] at this; omega
      have h1 := congrArg (fun l => l[jj]?) (hR k hk2)
      simp only [List.getElem?_map, List.getElem?_eq_getElem hlr, List.getElem?_eq_getElem hl, Option.map_some, Option.some.injEq, Prod.mk.injEq, hjj] at h1
      refine (hm _).2 ⟨k, hk2, jj, hlr, ?_⟩
      rw [h1.1]; omega
theorem tr_rs {k : Nat} (hk : k < S.length) : S[k].rs.length ≤ 20 ∧ ∀ r ∈ S[k].rs, r.es.length = 2 := by
  constructor
  · have := congrArg List.length (hR k hk)
    simp only [List.length_map] at this
    have := JS_len n k n
    omega
  · intro r hr
    obtain ⟨jj, hj, rfl⟩ := List.mem_iff_getElem.1 hr
    obtain ⟨j, _, _, _, h⟩ := tr_row hn hS hE hR hk hj
    rw [h]
    rfl
theorem tr_small : Small S ∧ (ups S).length ≤ 1000 ∧ (serT S S.length).length ≤ 1000 := by
  refine ⟨⟨by omega, fun s hs => ?_⟩, ?_, ?_⟩
  · obtain ⟨k, hk, rfl⟩ := List.mem_iff_getElem.1 hs
    have := tr_rs hn hS hE hR hk
    exact ⟨by omega, fun r hr => by have := this.2 r hr; omega⟩
  · have : (ups S).length ≤ S.length * 40 := fm_len _ 40 _ (fun k hk => by
      rw [getD_in hk]
      have h2 := tr_rs hn hS hE hR hk
      have h3 : (upR k S[k] S[k].rs.length).length ≤ S[k].rs.length * 2 := fm_len _ 2 _ (fun j hj => by
        rw [getD_in hj]
        have h4 := h2.2 _ (List.getElem_mem hj)
        have h5 : (upS k S[k].rs[j] S[k].rs[j].es.length).length ≤ S[k].rs[j].es.length * 1 := fm_len _ 1 _ (fun m hm => by
          unfold up1
          split <;> simp)
        omega)
      omega)
    omega
  · have : (serT S S.length).length ≤ S.length * 20 := fm_len _ 20 _ (fun k hk => by
      rw [getD_in hk, List.length_map]
      exact (tr_rs hn hS hE hR hk).1)
    omega
theorem tr_best (h : 0 < n) : ∃ u, best lba (ups S) = some u ∧ u.e = E (n - 1) ∧ u.p.su = 1 ∧ u.p.sl = 1 := by
  obtain ⟨u, hu, he, _⟩ := tr_has hn hS hE hR (j := n - 1) (by omega)
  obtain ⟨u', hb, hs⟩ := best_top lba n (ups S) none (.inr ⟨u, hu, by rw [he]; exact (hE _).2.1, by rw [he, (hE _).2.2]; omega⟩) (fun x hx => by cases hx) (fun v hv => by
    obtain ⟨j, h1, _, _, _, _, h6⟩ := tr_mem hn hS hE hR hv
    rw [h6]; omega)
  obtain ⟨j, h1, h2, h3, h4, h5, h6⟩ := tr_mem hn hS hE hR (best_mem hb).1
  have hj : j = n - 1 := by omega
  subst hj
  refine ⟨u', hb, h2, ?_, h4⟩
  rw [h3]
  omega
end
end Go.Proofs.Ytnihgfhaenpfkaa.Base
