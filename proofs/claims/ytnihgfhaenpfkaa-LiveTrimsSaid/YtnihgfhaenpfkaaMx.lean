/-
  The greatest of numbers (slices.Max, live.greatest).
-/
import Derived.Test.YtnihgfhaenpfkaaMi
namespace Go.Proofs.Ytnihgfhaenpfkaa.Base
open Go.RowKit Go.Proofs.YtnihgfhaenpfkaaW.PrintWords Go.Proofs.YtnihgfhaenpfkaaW.PrintLast
set_option linter.unusedSimpArgs false
set_option linter.unusedVariables false
def maxL (x0 : Int) (xs : List Int) : Int := xs.foldl max x0
theorem maxL_snoc (x0 : Int) (xs : List Int) (x : Int) : maxL x0 (xs ++ [x]) = max (maxL x0 xs) x := by simp [maxL]
theorem maxL_is (n : Int) : ∀ (l : List Int) (x0 : Int), x0 ≤ n → (∀ x ∈ l, x ≤ n) → (x0 = n ∨ n ∈ l) → maxL x0 l = n
  | [], x0, h0, _, h => by
    rcases h with h | h
    · exact h
    · simp at h
  | x :: l, x0, h0, h1, h => by
    have hx := h1 x (by simp)
    refine maxL_is n l (max x0 x) (by omega) (fun y hy => h1 y (by simp [hy])) ?_
    rcases h with h | h
    · exact .inl (by omega)
    · rcases List.mem_cons.1 h with h | h
      · exact .inl (by omega)
      · exact .inr h
theorem IntA.sized (bs : List Int) : Sized 1 (IntA bs) := by
  intro x hx
  obtain ⟨b, _, rfl⟩ := List.mem_map.1 hx
  rfl
theorem IntA.ones (bs : List Int) : Ones (IntA bs) := by
  intro x hx v hv
  obtain ⟨b, _, rfl⟩ := List.mem_map.1 hx
  simp only [List.mem_cons, List.not_mem_nil, or_false] at hv
  subst hv
  rfl
theorem IntA.len (bs : List Int) : (IntA bs).length = bs.length := by simp [IntA]
theorem IntA.app (bs cs : List Int) : IntA (bs ++ cs) = IntA bs ++ IntA cs := by simp [IntA]
theorem run_append_ia (w : World) (base n : Nat) (v : Value) (bs cs : List Int) (hown : Ow w base 3 1 v (IntA bs)) (hn : bs.length = n) (L B : Nat) (A : Option Addr) (m c : Nat) (hy : Sl w L B 1 A (IntA cs)) (hm : cs.length = m)
    (hsm : n + m ≤ 1000000) (hbase : base ≤ w.heap.size) (ty : TypeId) :
    ∃ A' c' w', (Builtin.append_ #[31, 31] ty #[v, .slice A m c]).run Try.prog w = .ok (.slice A' (n + m) c') w' ∧ Ow w' base 3 1 (.slice A' (n + m) c') (IntA (bs ++ cs)) ∧ w.grownBy w' v.ownBlock ∧ n + m ≤ c' := by
  obtain ⟨i0, hi0, hz0, hz1, hz2⟩ := info_parts info_int3
  obtain ⟨A', c', w', h1, h2, h3, h4⟩ := run_append_ow (P := Try.prog) w base 31 ty 3 i0 _ 1 8 Try.underlying31 hi0 hz0 hz1 hz2 rfl (by omega) v (IntA bs) hown L B A m c (IntA cs) hy
    (IntA.sized cs) (IntA.ones cs) (by rw [IntA.len]; exact hm) (by rw [IntA.len, hn]; unfold maxLen; omega) (by rw [IntA.len, hn]; omega) hbase
  rw [IntA.len, hn] at h1 h2 h4
  exact ⟨A', c', w', h1, by rw [IntA.app]; exact h2, h3, h4⟩
set_option maxRecDepth 100000 in
set_option maxHeartbeats 1000000 in
theorem max_any (A : Option Addr) (c n : Nat) (x0 : Int) (xs : List Int) (w : World) (hx : xs[0]? = some x0) (hn : xs.length = n) (hl : n ≤ 1000000) (hs : Sl w 0 w.heap.size 1 A (IntA xs)) :
    Calls Try.prog 20 #[.slice A n c] w fun x w' => x = .returned (.int .i64 (maxL x0 xs)) ∧ w = w' := by
  have hpos : 0 < xs.length := (List.getElem?_eq_some_iff.1 hx).1
  have hposI : ¬ (n : Int) < 1 := by omega
  obtain ⟨b, o, rfl, _, hbl, hr⟩ := hs.at_ (k := 0) (by rw [IntA.len]; exact hpos)
  have hc0 : w.cell? ⟨b, o, none⟩ = some (.int .i64 x0) := by
    have := rd_cell hr 0 (by omega)
    obtain ⟨_, hx'⟩ := List.getElem?_eq_some_iff.1 hx
    simp [IntA, hx'] at this
    exact this
  have hcell : ∀ k (hk : k < xs.length), w.cell? ⟨b, o + k, none⟩ = some (.int .i64 xs[k]) := fun k hk => by
    obtain ⟨b', o', e', _, _, hr'⟩ := hs.at_ (k := k) (by rw [IntA.len]; exact hk)
    injection e' with e'
    injection e' with e1 e2
    subst e1 e2
    have := rd_cell hr' 0 (by omega)
    simp [IntA] at this
    exact this
  have ht1 : maxL x0 (xs.take 1) = x0 := by
    have : xs.take 1 = [x0] := by
      cases xs with
      | nil => simp at hpos
      | cons y ys => simp at hx; subst hx; rfl
    rw [this]
    simp [maxL]
  replace hn := hide hn
  replace ht1 := hide ht1
  clear hr hs
  go_enter Try.func20, Try.ntmps20
  go_wp2_with fail
  go_loopw [3, 4] (fun s3 s4 wr => ∃ k : Nat, 1 ≤ k ∧ k ≤ n ∧ s4 = .int .i64 k ∧ s3 = .int .i64 (maxL x0 (xs.take k)) ∧ wr = w) (fun _ s4 _ => n - (intOf s4).toNat)
  case atStart => exact ⟨1, by omega, by omega, rfl, by rw [unhide ht1], rfl⟩
  case round =>
    obtain ⟨k, hk1, hkn, rfl, rfl, rfl⟩ := hrel
    by_cases hk : k < n
    · have hkI : (k : Int) < n := by omega
      have hkx : k < xs.length := by rw [unhide hn]; exact hk
      have hc := hcell k hkx
      obtain ⟨X, hX⟩ : ∃ X, X = xs[k] := ⟨_, rfl⟩
      have htk : maxL x0 (xs.take (k + 1)) = max (maxL x0 (xs.take k)) X := by rw [hX, List.take_succ_eq_append_getElem hkx, maxL_snoc]
      rw [← hX] at hc
      obtain ⟨M, hM⟩ : ∃ M, M = maxL x0 (xs.take k) := ⟨_, rfl⟩
      rw [← hM] at htk ⊢
      clear hX hM hcell
      replace htk := hide htk
      go_wp2_with fail
      all_goals
        go_roundw
        case rel => exact ⟨k + 1, by omega, by omega, by go_num, by rw [unhide htk]; exact congrArg (Value.int .i64) (by omega), by first | rfl | trivial⟩
        case measure => simp [intOf]; omega
    · obtain rfl : n = k := by omega
      have hte : xs.take n = xs := List.take_of_length_le (by rw [unhide hn]; exact Nat.le_refl _)
      rw [hte]
      go_wp2_with fail
      go_ret
      exact ⟨rfl, rfl⟩
theorem ow_one (w : World) (x : Int) : Ow (w.alloc (.cells #[.int .i64 x] 3)) w.heap.size 3 1 (.slice (some ⟨w.heap.size, 0, none⟩) 1 1) (IntA [x]) :=
  ⟨rfl, .inr ⟨w.heap.size, 1, _, rfl, Nat.le_refl _, heap_alloc_new w _, Nat.le_refl _, by unfold maxLen; omega, rfl, rfl⟩⟩
set_option maxRecDepth 100000 in
set_option maxHeartbeats 1000000 in
theorem greatest_any (A : Option Addr) (c n : Nat) (xs : List Int) (w : World) (hn : xs.length = n) (hl : n ≤ 100000) (hs : Sl w 0 w.heap.size 1 A (IntA xs)) :
    Calls Try.prog 17 #[.slice A n c] w fun x w' => x = .returned (.int .i64 (maxL 0 xs)) ∧ Below w.heap.size w w' := by
  obtain ⟨A', c', w', hrun, ho, hg, hc'⟩ := run_append_ia (w.alloc (.cells #[.int .i64 0] 3)) w.heap.size 1 _ [0] xs (ow_one w 0) rfl 0 w.heap.size A n c (hs.below ((Below.refl _ _).alloc (Nat.le_refl _) _)) hn (by omega) (by simp) 31
  have hcon := max_any A' c' (1 + n) 0 ([0] ++ xs) w' rfl (by simp [hn]; omega) (by omega) ((ho.sl (IntA.sized _) (by omega)).less (Nat.zero_le _))
  have hm : maxL 0 ([0] ++ xs) = maxL 0 xs := by simp [maxL]
  rw [hm] at hcon
  have hb : Below w.heap.size w w' := below_grown ((Below.refl _ _).alloc (Nat.le_refl _) _) hg (by simp) (fun k e => ((ow_one w 0).lt k e).1)
  replace hm := hide hm
  replace hn := hide hn
  clear ho hg
  go_enter Try.func17, Try.ntmps17
  go_wp2_with (at_builtin; refine wpList_step (fun K hK => step_append_ex (o := ⟨some 5, _, _, _, _, _⟩) (.tmp 3) (.tmp 4) 31 rfl (by rfl) ?_); (with_reducible refine app_ex hrun ?_ (hK _ _ ?_)); rfl)
  (with_reducible refine hcon.mono ?_)
  rintro e w2 ⟨rfl, rfl⟩
  go_wp2_with fail
  go_ret
  exact ⟨rfl, hb⟩
end Go.Proofs.Ytnihgfhaenpfkaa.Base
