/-
  LiveLess: the walk of the law.
-/
import Derived.Test.YtnihgfhaenpfkaaSe
namespace Go.Proofs.Ytnihgfhaenpfkaa.Base
open Go.RowKit Go.Proofs.YtnihgfhaenpfkaaW.PrintWords Go.Proofs.YtnihgfhaenpfkaaW.PrintLast
set_option linter.unusedSimpArgs false
set_option linter.unusedVariables false
attribute [local go_sem] ldR_some stR_true rd_new_whole rd_alloc canW_new canW_alloc wr_new wr_alloc rd_drew rd_drewN canW_drew canW_drewN rd_setCell rd_setCell_same canW_setCell' Option.map_some cell_wr_other rd_wr_same rd_wr_other run_stV_sup okW_sup
attribute [local go_sem ↓] stV_sup
theorem SupD.sized (S : List SupD) : Sized 2 (S.map SupD.arr) := fun x hx => by
  obtain ⟨s, _, rfl⟩ := List.mem_map.1 hx
  rfl
theorem SupD.ones (S : List SupD) : Ones (S.map SupD.arr) := fun x hx v hv => by
  obtain ⟨s, _, rfl⟩ := List.mem_map.1 hx
  simp only [SupD.arr, List.mem_cons, List.not_mem_nil, or_false] at hv
  rcases hv with rfl | rfl <;> rfl
/-- superblocks put behind none: a row of one's own -/
theorem run_append_sups (w : World) (S : List SupD) (A : Option Addr) (c : Nat) (hS : S.length = 5) (hs : Sl w 0 w.heap.size 2 A (S.map SupD.arr)) (ty : TypeId) :
    ∃ g c' w', (Builtin.append_ #[25, 25] ty #[.slice (some ⟨w.heap.size, 0, none⟩) 0 0, .slice A 5 c]).run Try.prog (w.alloc (.cells #[] 43)) = .ok (.slice (some ⟨g, 0, none⟩) 5 c') w' ∧ w.heap.size ≤ g ∧ g < w'.heap.size ∧
      Ow w' w.heap.size 43 2 (.slice (some ⟨g, 0, none⟩) 5 c') (S.map SupD.arr) ∧ Below w.heap.size w w' ∧ 5 ≤ c' := by
  obtain ⟨i0, hi0, hz0, hz1, hz2⟩ := info_parts info_sup3
  have ho := Ow.empty w 43 2
  obtain ⟨A', c', w', h1, h2, h3, h4⟩ := run_append_ow (P := Try.prog) (w.alloc (.cells #[] 43)) w.heap.size 25 ty 43 i0 _ 2 32 Try.underlying25 hi0 hz0 hz1 hz2 rfl (by omega) _ [] ho 0 w.heap.size A 5 c (S.map SupD.arr) (hs.below ((Below.refl _ _).alloc (Nat.le_refl _) _))
    (SupD.sized S) (SupD.ones S) (by simpa using hS) (by unfold maxLen; simp) (by simp) (by simp)
  rw [List.nil_append] at h2
  rw [List.length_nil, Nat.zero_add] at h1 h2 h4
  obtain ⟨g, hg⟩ : ∃ g, A' = some ⟨g, 0, none⟩ := by
    rcases h2.2 with ⟨h0, h00⟩ | ⟨g, cap, cur, h0, _⟩
    · rw [List.length_map, hS] at h00; omega
    · injection h0 with h0 _ _; exact ⟨g, h0⟩
  subst hg
  have hl := h2.lt g rfl
  exact ⟨g, c', w', h1, hl.1, hl.2, h2, below_grown ((Below.refl _ _).alloc (Nat.le_refl _) _) h3 (by simp) (fun k e => (ho.lt k e).1), h4⟩
/-- an element of a row is written -/
theorem Sl.wr {w : World} {L B sz g : Nat} {xs : List (Array Value)} (h : Sl w L B sz (some ⟨g, 0, none⟩) xs) {k : Nat} (hk : k < xs.length) {y : Array Value} (hy : y.size = sz) (hc : canW w g (k * sz) sz = true) : Sl (Base.wr w g (k * sz) y) L B sz (some ⟨g, 0, none⟩) (xs.set k y) := fun hne => by
  obtain ⟨b, o, e, hL, hlt, hr⟩ := h.pos (by omega)
  injection e with e
  injection e with e1 e2
  subst e1 e2
  refine ⟨g, 0, rfl, hL, hlt, fun i hi => ?_⟩
  rw [List.length_set] at hi
  rw [Nat.zero_add]
  by_cases hki : k = i
  · subst hki
    rw [List.getElem_set_self]
    exact rd_wr_same _ _ _ _ _ hy.symm hc
  · rw [List.getElem_set_ne hki]
    have := hr i hi
    rw [Nat.zero_add] at this
    refine (rd_wr_apart _ _ _ _ _ _ (by rw [hy]; exact hc) ?_).trans this
    rw [hy]
    rcases Nat.lt_or_ge i k with h1 | h1
    · exact .inl (by have := Nat.mul_le_mul_right sz h1; rw [Nat.succ_mul] at this; omega)
    · exact .inr (by have := Nat.mul_le_mul_right sz (show k + 1 ≤ i by omega); rw [Nat.succ_mul] at this; omega)
theorem cnt_none {k n : Nat} {S : List SupD} (h : cntP k (plL n (ups S)) = 0) : ∀ a : Nat, a < n → ∀ u, best (a : Int) (ups S) = some u → u.p.su ≠ (k : Int) := fun a ha u hu e => by
  have h1 := List.countP_eq_zero.1 h (oP (best (a : Int) (ups S))) (List.mem_map.2 ⟨a, List.mem_range.2 ha, rfl⟩)
  rw [hu] at h1
  exact h1 (decide_eq_true e)
theorem Sups.put {w w' : World} {A : Option Addr} {S : List SupD} {g : Nat} {k : Nat} (h : Sups w w.heap.size A S) (hb : Below w.heap.size w w') (hg : Sl w' 0 w'.heap.size 2 (some ⟨g, 0, none⟩) ((S.set k zS).map SupD.arr)) : Sups w' w'.heap.size (some ⟨g, 0, none⟩) (S.set k zS) := by
  refine ⟨hg, fun s hs => ?_⟩
  rcases List.mem_or_eq_of_mem_set hs with h1 | h1
  · exact ⟨((h.2 s h1).1.below hb).more hb.size, fun r hr => (((h.2 s h1).2 r hr).below hb).more hb.size⟩
  · rw [h1]; exact ⟨Sl.nil, fun r hr => by simp [zS] at hr⟩
theorem Small.put {S : List SupD} (h : Small S) (k : Nat) : Small (S.set k zS) := by
  refine ⟨by rw [List.length_set]; exact h.1, fun s hs => ?_⟩
  rcases List.mem_or_eq_of_mem_set hs with h1 | h1
  · exact h.2 s h1
  · rw [h1]; exact ⟨by simp [zS], fun r hr => by simp [zS] at hr⟩
set_option maxRecDepth 100000 in
set_option maxHeartbeats 1000000 in
theorem less_walk (A : Option Addr) (c : Nat) (L : List RawD) (a1 : Int) (w : World) (hwf : ∀ r ∈ L, r.Wf) (h1 : I64 a1) (hs : Raws w w.heap.size A L) :
    Calls Try.prog 4 #[.slice A L.length c, .int .i64 a1] w fun x w' => x = .returned (.bool true) ∧ Below w.heap.size w w' := by
  obtain ⟨k, hk, hw5⟩ := w14_lt a1 5 h1 (by omega) (by omega)
  have hk5 : k < 5 := by omega
  go_enter Try.func4, Try.ntmps4
  go_wp2_with fail
  refine (known14 _).mono ?_
  rintro e w1 ⟨rfl, hb1⟩
  go_wp2_with fail
  have hs1 : Raws w1 w1.heap.size A L := ⟨(hs.1.below hb1).more hb1.size, fun r hr => ((hs.2 r hr).below hb1).more hb1.size⟩
  refine (make_any A c L w1 hwf hs1).mono ?_
  rintro e w2 ⟨S, rfl, hM⟩
  obtain ⟨hSup, hSm, _⟩ := hM.sups
  have hlen := hM.len
  have hb2 : Below w.heap.size w w2 := hb1.trans (hM.b.mono hb1.size)
  have hof : Calls Try.prog 9 #[.slice (some ⟨w1.heap.size, 0, none⟩) S.length 5, .int .i64 8] w2 _ := of_ok (some ⟨w1.heap.size, 0, none⟩) 5 S 8 w2 (by omega) hSm (by omega) hSup
  rw [hlen] at hof
  have hlS := hide hlen
  clear hlen hM hs1 hs
  go_wp2_with fail
  (with_reducible refine hof.mono ?_)
  rintro e w3 ⟨⟨bo, bp, rfl, ho, hp⟩, hb3⟩
  clear hof
  have hin : Calls Try.prog 10 #[.slice (some ⟨bp, 0, none⟩) (plL 8 (ups S)).length 8, .int .i64 5] w3 _ := in_any (some ⟨bp, 0, none⟩) 8 5 (plL 8 (ups S)) w3 (by omega) (by rw [plL_len]; omega) (hp.less (Nat.zero_le _))
  rw [plL_len] at hin
  go_wp2_with fail
  (with_reducible refine hin.mono ?_)
  rintro e w4 ⟨rfl, hA, hb4⟩
  clear hin
  have ho4 := ho.below hb4
  have hp4 := hp.below hb4
  have hb24 : Below w2.heap.size w2 w4 := hb3.trans (hb4.mono hb3.size)
  clear ho hp
  go_wp2_with fail
  refine (hw5 _).mono ?_
  rintro e wq ⟨rfl, rfl⟩
  have hcell : w4.cell? ⟨w3.heap.size, k, none⟩ = some (.int .i64 (cntP k (plL 8 (ups S)))) := by
    have := hA.cell (k := k) (m := 0) (by simp [IntA, cntL_len]; exact hk5) (by omega)
    simp [IntA, cntL] at this
    exact this
  have hcn := cnt_none (k := k) (n := 8) (S := S)
  obtain ⟨C, hC⟩ : ∃ C, C = cntP k (plL 8 (ups S)) := ⟨_, rfl⟩
  rw [← hC] at hcell hcn
  clear hC hA
  have hz24 := hb24.size
  have hbF4 : Below w.heap.size w w4 := hb2.trans (hb24.mono hb2.size)
  have hk0 : (0 : Int) ≤ k := by omega
  rcases Nat.eq_zero_or_pos C with h0 | h0
  · subst h0
    have hlists := lists_less 8 S k zS rfl (hcn rfl)
    have hSup4 := (hSup.below hb24).more hz24
    obtain ⟨g, c5, w5, hrun, hg1, hg2, ho5, hb5, hc5⟩ := run_append_sups w4 S (some ⟨w1.heap.size, 0, none⟩) 5 (unhide hlS) hSup4.1 25
    have hcw : canW w5 g (k * 2) 2 = true := ho5.canW (by omega) (by rw [List.length_map, unhide hlS])
    have hs5 : Sl w5 0 w5.heap.size 2 (some ⟨g, 0, none⟩) (S.map SupD.arr) := (ho5.sl (SupD.sized S) (by omega)).less (Nat.zero_le _)
    have hs6 := hs5.wr (k := k) (y := #[.int .i64 0, .slice none 0 0]) (by rw [List.length_map, unhide hlS]; exact hk5) rfl hcw
    obtain ⟨w6, hw6⟩ : ∃ w6, w6 = Base.wr w5 g (k * 2) #[.int .i64 0, .slice none 0 0] := ⟨_, rfl⟩
    have hz6 : w6.heap.size = w5.heap.size := by rw [hw6, size_wr]
    have hb6 : Below w4.heap.size w4 w6 := by rw [hw6]; exact below_wr hb5 hg1 _ _
    have hs7 : Sl w6 0 w6.heap.size 2 (some ⟨g, 0, none⟩) ((S.set k zS).map SupD.arr) := by
      rw [hz6, List.map_set, hw6]
      exact hs6
    have hof2 : Calls Try.prog 9 #[.slice (some ⟨g, 0, none⟩) (S.set k zS).length c5, .int .i64 8] w6 _ := of_ok (some ⟨g, 0, none⟩) c5 (S.set k zS) 8 w6 (by omega) (hSm.put k) (by rw [List.length_set, unhide hlS]; exact hc5) (hSup4.put hb6 hs7)
    rw [List.length_set, unhide hlS, hlists.1, hlists.2] at hof2
    have hbF6 : Below w.heap.size w w6 := hbF4.trans (hb6.mono hbF4.size)
    have hB4 : bo < w4.heap.size ∧ bp < w4.heap.size := by
      obtain ⟨b', o', e', _, hlt1, _⟩ := ho4.pos (by simp [esL_len])
      obtain ⟨b'', o'', e'', _, hlt2, _⟩ := hp4.pos (by simp [plL_len])
      injection e' with e'
      injection e' with e1 _
      injection e'' with e''
      injection e'' with e2 _
      have := hb4.size
      omega
    have hz4 := hb4.size
    have ho6 := (ho4.more hz4).below hb6
    have hp6 := (hp4.more hz4).below hb6
    clear hs5 hs6 hs7 hSup hSup4 hSm hlists hcn
    replace hw6 := hide hw6
    replace hz6 := hide hz6
    go_wp2_with (at_builtin; refine wpList_step (fun K hK => step_append_ex (o := ⟨some 47, _, _, _, _, _⟩) (.tmp 45) (.tmp 46) 25 rfl (by rfl) ?_); (with_reducible refine app_ex hrun ?_ (hK _ _ ?_)); rfl)
    rw [← unhide hw6]
    (with_reducible refine hof2.mono ?_)
    rintro e w7 ⟨⟨bo2, bp2, rfl, ho7, hp7⟩, hb7⟩
    have hz7 := hb7.size
    have hz46 := hb6.size
    have hsame := same14 (some ⟨bo, 0, none⟩) (some ⟨bo2, 0, none⟩) (some ⟨bp, 0, none⟩) (some ⟨bp2, 0, none⟩) 8 8 8 8 8 (esL 8 (ups S)) (plL 8 (ups S)) w7 (esL_len _ _) (plL_len _ _) (by omega)
      ((((ho6.more hz46).below hb7).more hz7).less (Nat.zero_le _)) (ho7.less (Nat.zero_le _)) ((((hp6.more hz46).below hb7).more hz7).less (Nat.zero_le _)) (hp7.less (Nat.zero_le _))
    have hbF7 : Below w.heap.size w w7 := hbF6.trans (hb7.mono hbF6.size)
    clear hof2 ho6 hp6 ho7 hp7
    go_wp2_with fail
    (with_reducible refine hsame.mono ?_)
    rintro e w8 ⟨rfl, hb8⟩
    go_wp2_with fail
    go_ret
    exact ⟨rfl, hbF7.trans (hb8.mono hbF7.size)⟩
  · have h0I : (0 : Int) < C := by omega
    go_wp2_with fail
    go_ret
    exact ⟨rfl, hbF4⟩
end Go.Proofs.Ytnihgfhaenpfkaa.Base
