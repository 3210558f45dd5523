/-
  What counts of superblocks, plainly.
-/
import Derived.Test.YtnihgfhaenpfkaaLb
namespace Go.Proofs.Ytnihgfhaenpfkaa.Base
open Go.RowKit
set_option linter.unusedSimpArgs false
set_option linter.unusedVariables false
structure Pl where
  su : Int
  ro : Int
  sl : Int
def Pl.arr (p : Pl) : Array Value := #[.int .i64 p.su, .int .i64 p.ro, .int .i64 p.sl]
/-- an update, where it stands, its row's number -/
structure U where
  e : Ent
  p : Pl
  ser : Int
structure RowD where
  ser : Int
  at_ : Int
  A : Option Addr
  c : Nat
  es : List Ent
def RowD.arr (r : RowD) : Array Value := #[.int .i64 r.ser, .int .i64 r.at_, .slice r.A r.es.length r.c]
structure SupD where
  st : Int
  A : Option Addr
  c : Nat
  rs : List RowD
def SupD.arr (s : SupD) : Array Value := #[.int .i64 s.st, .slice s.A s.rs.length s.c]
def zR : RowD := ⟨0, 0, none, 0, []⟩
def zS : SupD := ⟨0, none, 0, []⟩
def Cnt (e : Ent) : Prop := e.k = 1 ∨ e.k = 2
instance (e : Ent) : Decidable (Cnt e) := inferInstanceAs (Decidable (_ ∨ _))
def up1 (i : Nat) (r : RowD) (j : Nat) : List U := if Cnt (r.es.getD j Ent.zero) then [⟨r.es.getD j Ent.zero, ⟨i, r.at_, j⟩, r.ser⟩] else []
def upS (i : Nat) (r : RowD) (k : Nat) : List U := (List.range k).flatMap fun j => up1 i r j
def upR (i : Nat) (s : SupD) (k : Nat) : List U := (List.range k).flatMap fun j => upS i (s.rs.getD j zR) (s.rs.getD j zR).es.length
def upT (T : List SupD) (k : Nat) : List U := (List.range k).flatMap fun i => upR i (T.getD i zS) (T.getD i zS).rs.length
def ups (T : List SupD) : List U := upT T T.length
theorem upS_succ (i : Nat) (r : RowD) (k : Nat) : upS i r (k + 1) = upS i r k ++ up1 i r k := by simp [upS, List.range_succ, List.flatMap_append]
theorem upR_succ (i : Nat) (s : SupD) (k : Nat) : upR i s (k + 1) = upR i s k ++ upS i (s.rs.getD k zR) (s.rs.getD k zR).es.length := by simp [upR, List.range_succ, List.flatMap_append]
theorem upT_succ (T : List SupD) (k : Nat) : upT T (k + 1) = upT T k ++ upR k (T.getD k zS) (T.getD k zS).rs.length := by simp [upT, List.range_succ, List.flatMap_append]
theorem range_pre {α : Type} (f : Nat → List α) {j n : Nat} (h : j ≤ n) : (List.range j).flatMap f <+: (List.range n).flatMap f := by
  obtain ⟨d, rfl⟩ : ∃ d, n = j + d := ⟨n - j, by omega⟩
  rw [List.range_add, List.flatMap_append]
  exact List.prefix_append _ _
theorem pre_left {α : Type} (a : List α) {b c : List α} (h : b <+: c) : a ++ b <+: a ++ c := by
  obtain ⟨d, rfl⟩ := h
  exact ⟨d, by simp⟩
theorem ups_pre (T : List SupD) {i j k : Nat} (hi : i < T.length) (hj : j < (T.getD i zS).rs.length) (hk : k ≤ ((T.getD i zS).rs.getD j zR).es.length) :
    upT T i ++ (upR i (T.getD i zS) j ++ upS i ((T.getD i zS).rs.getD j zR) k) <+: ups T := by
  have h1 : upS i ((T.getD i zS).rs.getD j zR) k <+: upS i ((T.getD i zS).rs.getD j zR) ((T.getD i zS).rs.getD j zR).es.length := range_pre _ hk
  have h2 : upR i (T.getD i zS) (j + 1) <+: upR i (T.getD i zS) (T.getD i zS).rs.length := range_pre _ hj
  have h3 : upT T (i + 1) <+: ups T := range_pre _ hi
  rw [upR_succ] at h2
  rw [upT_succ] at h3
  exact (pre_left _ ((pre_left _ h1).trans h2)).trans h3
/-! ### the newest one -/
def newer (u : U) : Option U → Prop
  | none => True
  | some v => v.e.s < u.e.s ∨ (u.e.s = v.e.s ∧ v.ser < u.ser)
instance (u : U) (o : Option U) : Decidable (newer u o) := by
  cases o with
  | none => exact inferInstanceAs (Decidable True)
  | some v => exact inferInstanceAs (Decidable (_ ∨ _))
def bstep (k : Int) (o : Option U) (u : U) : Option U := if u.e.l = k ∧ newer u o then some u else o
def best (k : Int) (l : List U) : Option U := l.foldl (bstep k) none
theorem best_snoc (k : Int) (l : List U) (u : U) : best k (l ++ [u]) = bstep k (best k l) u := by simp [best]
theorem best_mem_aux (k : Int) : ∀ (l : List U) (o : Option U) (u : U), l.foldl (bstep k) o = some u → o = some u ∨ (u ∈ l ∧ u.e.l = k)
  | [], o, u, h => .inl h
  | v :: l, o, u, h => by
    rcases best_mem_aux k l _ u h with h1 | ⟨h1, h2⟩
    · unfold bstep at h1
      split at h1
      · injection h1 with h1
        subst h1
        rename_i hc
        exact .inr ⟨by simp, hc.1⟩
      · exact .inl h1
    · exact .inr ⟨by simp [h1], h2⟩
theorem best_mem {k : Int} {l : List U} {u : U} (h : best k l = some u) : u ∈ l ∧ u.e.l = k := by
  rcases best_mem_aux k l none u h with h1 | h1
  · cases h1
  · exact h1
def oE : Option U → Ent
  | none => Ent.zero
  | some u => u.e
def oP : Option U → Pl
  | none => ⟨-1, 0, 0⟩
  | some u => u.p
def oS : Option U → Int
  | none => 0
  | some u => u.ser
def esL (n : Nat) (l : List U) : List Ent := (List.range n).map fun (k : Nat) => oE (best (k : Int) l)
def plL (n : Nat) (l : List U) : List Pl := (List.range n).map fun (k : Nat) => oP (best (k : Int) l)
def seL (n : Nat) (l : List U) : List Int := (List.range n).map fun (k : Nat) => oS (best (k : Int) l)
theorem esL_len (n : Nat) (l : List U) : (esL n l).length = n := by simp [esL]
theorem plL_len (n : Nat) (l : List U) : (plL n l).length = n := by simp [plL]
theorem seL_len (n : Nat) (l : List U) : (seL n l).length = n := by simp [seL]
theorem set_map {α : Type} (n k : Nat) (f g : Nat → α) (x : α) (hk : k < n) (hx : g k = x) (ho : ∀ j, j ≠ k → g j = f j) : (List.range n).map g = ((List.range n).map f).set k x := by
  apply List.ext_getElem
  · simp
  · intro j h1 h2
    simp only [List.getElem_map, List.getElem_range]
    rw [List.getElem_set]
    split
    · rename_i e; subst e; exact hx
    · rename_i e; simp only [List.getElem_map, List.getElem_range]; exact ho j (fun h => e h.symm)
theorem best_take (k : Nat) (l : List U) (u : U) (hk : u.e.l = k) (hn : newer u (best k l)) : best (k : Int) (l ++ [u]) = some u := by
  rw [best_snoc]; unfold bstep; rw [if_pos ⟨hk, hn⟩]
theorem best_skip (k : Nat) (l : List U) (u : U) (h : ¬ (u.e.l = k ∧ newer u (best k l))) : best (k : Int) (l ++ [u]) = best k l := by
  rw [best_snoc]; unfold bstep; rw [if_neg h]
theorem sets (n k : Nat) (l : List U) (u : U) (hkn : k < n) (hk : u.e.l = k) (hn : newer u (best k l)) :
    esL n (l ++ [u]) = (esL n l).set k u.e ∧ plL n (l ++ [u]) = (plL n l).set k u.p ∧ seL n (l ++ [u]) = (seL n l).set k u.ser := by
  have h1 := best_take k l u hk hn
  have h2 : ∀ j : Nat, j ≠ k → best (j : Int) (l ++ [u]) = best j l := fun j hj => best_skip j l u (fun h => hj (by omega))
  exact ⟨set_map n k _ _ _ hkn (by rw [h1]; rfl) (fun j hj => by rw [h2 j hj]), set_map n k _ _ _ hkn (by rw [h1]; rfl) (fun j hj => by rw [h2 j hj]), set_map n k _ _ _ hkn (by rw [h1]; rfl) (fun j hj => by rw [h2 j hj])⟩
theorem keeps (n : Nat) (l : List U) (u : U) (h : ∀ k : Nat, k < n → u.e.l = k → ¬ newer u (best k l)) :
    esL n (l ++ [u]) = esL n l ∧ plL n (l ++ [u]) = plL n l ∧ seL n (l ++ [u]) = seL n l := by
  have h2 : ∀ j : Nat, j < n → best (j : Int) (l ++ [u]) = best j l := fun j hj => best_skip j l u (fun hh => h j hj hh.1 hh.2)
  have key : ∀ {α : Type} (f : Option U → α), (List.range n).map (fun k : Nat => f (best (k : Int) (l ++ [u]))) = (List.range n).map fun k : Nat => f (best (k : Int) l) := fun f => List.map_congr_left (fun j hj => by rw [h2 j (List.mem_range.1 hj)])
  exact ⟨key oE, key oP, key oS⟩
/-! ### without some that don't count -/
theorem newer_trans {a b : U} {o : Option U} (h : newer a (some b)) (h' : newer b o) : newer a o := by
  cases o with
  | none => trivial
  | some c => unfold newer at h h' ⊢; dsimp only at h h' ⊢; omega
theorem best_less_aux (k : Int) (q : U → Bool) : ∀ (l : List U) (f g : Option U), (f = g ∨ ∃ v, f = some v ∧ q v = true ∧ ∀ u, newer u (some v) → newer u g) →
    (l.foldl (bstep k) f = (l.filter fun u => !q u).foldl (bstep k) g ∨ ∃ v, l.foldl (bstep k) f = some v ∧ q v = true)
  | [], f, g, h => by
    rcases h with h | ⟨v, h1, h2, _⟩
    · exact .inl h
    · exact .inr ⟨v, h1, h2⟩
  | u :: l, f, g, h => by
    by_cases hq : q u = true
    · rw [List.filter_cons_of_neg (by simp [hq]), List.foldl_cons]
      refine best_less_aux k q l _ _ ?_
      unfold bstep
      split
      · rename_i hc
        refine .inr ⟨u, rfl, hq, fun u' hu' => ?_⟩
        rcases h with rfl | ⟨v, rfl, _, h3⟩
        · exact newer_trans hu' hc.2
        · exact h3 u' (newer_trans hu' hc.2)
      · exact h
    · rw [List.filter_cons_of_pos (by simp [hq]), List.foldl_cons, List.foldl_cons]
      refine best_less_aux k q l _ _ ?_
      rcases h with rfl | ⟨v, rfl, h2, h3⟩
      · exact .inl rfl
      · unfold bstep
        by_cases hl : u.e.l = k
        · by_cases hn : newer u (some v)
          · rw [if_pos ⟨hl, hn⟩, if_pos ⟨hl, h3 u hn⟩]; exact .inl rfl
          · rw [if_neg (fun h => hn h.2)]
            refine .inr ⟨v, rfl, h2, fun u' hu' => ?_⟩
            split
            · unfold newer at hn hu' ⊢; dsimp only at hn hu' ⊢; omega
            · exact h3 u' hu'
        · rw [if_neg (fun h => hl h.1), if_neg (fun h => hl h.1)]
          exact .inr ⟨v, rfl, h2, h3⟩
theorem best_less (k : Int) (q : U → Bool) (l : List U) (h : ∀ u, best k l = some u → q u = false) : best k (l.filter fun u => !q u) = best k l := by
  rcases best_less_aux k q l none none (.inl rfl) with h1 | ⟨v, h1, h2⟩
  · exact h1.symm
  · have := h v h1
    rw [h2] at this
    cases this
theorem up1_su {i : Nat} {r : RowD} {j : Nat} {u : U} (h : u ∈ up1 i r j) : u.p.su = i ∧ Cnt u.e ∧ u.e = r.es.getD j Ent.zero := by
  unfold up1 at h
  split at h
  · rename_i hc
    rw [List.mem_singleton.1 h]
    exact ⟨rfl, hc, rfl⟩
  · simp at h
theorem upR_mem {i : Nat} {s : SupD} {k : Nat} {u : U} (h : u ∈ upR i s k) : ∃ j m, j < k ∧ m < (s.rs.getD j zR).es.length ∧ u ∈ up1 i (s.rs.getD j zR) m := by
  obtain ⟨j, hj, h1⟩ := List.mem_flatMap.1 h
  obtain ⟨m, hm, h2⟩ := List.mem_flatMap.1 h1
  exact ⟨j, m, List.mem_range.1 hj, List.mem_range.1 hm, h2⟩
theorem getD_in {α : Type} {l : List α} {i : Nat} {d : α} (h : i < l.length) : l.getD i d = l[i] := by rw [List.getD_eq_getElem?_getD, List.getElem?_eq_getElem h, Option.getD_some]
theorem ups_mem {T : List SupD} {u : U} (h : u ∈ ups T) : ∃ i : Nat, i < T.length ∧ u.p.su = i ∧ Cnt u.e ∧ ∃ s ∈ T, ∃ r ∈ s.rs, u.e ∈ r.es := by
  obtain ⟨i, hi, h1⟩ := List.mem_flatMap.1 h
  have hi := List.mem_range.1 hi
  obtain ⟨j, m, hj, hm, h2⟩ := upR_mem h1
  obtain ⟨e1, e2, e3⟩ := up1_su h2
  rw [getD_in hi] at hj hm e3
  rw [getD_in hj] at hm e3
  rw [getD_in hm] at e3
  exact ⟨i, hi, e1, e2, _, List.getElem_mem hi, _, List.getElem_mem hj, by rw [e3]; exact List.getElem_mem hm⟩
theorem filter_flatMap' {α β : Type} (p : β → Bool) (f : α → List β) : ∀ l : List α, (l.flatMap f).filter p = l.flatMap fun x => (f x).filter p
  | [] => rfl
  | a :: l => by simp [List.flatMap_cons, List.filter_append, filter_flatMap' p f l]
theorem flatMap_congr' {α β : Type} {f g : α → List β} : ∀ {l : List α}, (∀ x ∈ l, f x = g x) → l.flatMap f = l.flatMap g
  | [], _ => rfl
  | a :: l, h => by rw [List.flatMap_cons, List.flatMap_cons, h a (by simp), flatMap_congr' fun x hx => h x (by simp [hx])]
theorem ups_less (T : List SupD) (k : Nat) (s : SupD) (hs : s.rs = []) : ups (T.set k s) = (ups T).filter fun u => !decide (u.p.su = (k : Int)) := by
  unfold ups upT
  rw [filter_flatMap', List.length_set]
  refine flatMap_congr' fun i hi => ?_
  have hi := List.mem_range.1 hi
  rw [List.getD_eq_getElem?_getD, List.getElem?_set]
  by_cases hk : k = i
  · subst hk
    rw [if_pos rfl, if_pos hi, Option.getD_some, hs]
    have h0 : upR k s 0 = [] := rfl
    show upR k s 0 = _
    rw [h0, eq_comm, List.filter_eq_nil_iff]
    intro u hu
    obtain ⟨j, m, _, _, h2⟩ := upR_mem hu
    simp [(up1_su h2).1]
  · rw [if_neg hk, ← List.getD_eq_getElem?_getD, eq_comm, List.filter_eq_self]
    intro u hu
    obtain ⟨j, m, _, _, h2⟩ := upR_mem hu
    have := (up1_su h2).1
    simp only [Bool.not_eq_eq_eq_not, Bool.not_true, decide_eq_false_iff_not]
    omega
theorem lists_less (n : Nat) (T : List SupD) (k : Nat) (s : SupD) (hs : s.rs = []) (h : ∀ a : Nat, a < n → ∀ u, best (a : Int) (ups T) = some u → u.p.su ≠ (k : Int)) : esL n (ups (T.set k s)) = esL n (ups T) ∧ plL n (ups (T.set k s)) = plL n (ups T) := by
  rw [ups_less T k s hs]
  have h2 : ∀ j : Nat, j < n → best (j : Int) ((ups T).filter fun u => !decide (u.p.su = (k : Int))) = best j (ups T) := fun j hj => best_less _ _ _ (fun u hu => by simpa using h j hj u hu)
  exact ⟨List.map_congr_left (fun j hj => by rw [h2 j (List.mem_range.1 hj)]), List.map_congr_left (fun j hj => by rw [h2 j (List.mem_range.1 hj)])⟩
end Go.Proofs.Ytnihgfhaenpfkaa.Base
