/-
  Parts of a proof, laid together by a program of mine (pack.py): Cc.
-/
import Derived.WalkSpells
import Derived.Test.YtibileffpgnjhaaZC22
namespace Go.Proofs.Ytibileffpgnjhaa.Base
open Go.RowKit Go.Proofs.YtibileffpgnjhaaW.PrintWords
set_option linter.unusedSimpArgs false
set_option linter.unusedVariables false
/-- more rows of bytes, whose headers lie somewhere -/
theorem Rws.app_src (w : World) (base : Nat) (v : Value) (T : List Hr) (h : Rws w base v T) (ts : List Hr) (k : Nat) (hk : ts.length = k) (ad : Addr) (cx : Nat) (hcells : ∀ j u, (ts.map Hr.cell)[j]? = some u → w.cell? (ad.add j) = some u) (hts : ∀ t ∈ ts, t.2.2.length ≤ t.2.1 ∧ t.2.2.length ≤ 1000000 ∧ Sl w 0 w.heap.size 1 t.1 (By t.2.2) ∧ ∀ a, t.1 = some a → a.block < w.heap.size ∧ some a.block ≠ v.ownBlock) (hT : T.length + k ≤ 100000) (hbase : base ≤ w.heap.size) (ty : TypeId) :
    ∃ A' c' w', (Builtin.append_ #[25, 25] ty #[v, .slice (some ad) k cx]).run Try.prog w = .ok (.slice A' (T.length + k) c') w' ∧ T.length + k ≤ c' ∧ Rws w' base (.slice A' (T.length + k) c') (T ++ ts) ∧ w.grownBy w' v.ownBlock := by
  subst hk
  obtain ⟨i0, hi0, hz0, hz1, hz2⟩ := info_parts info_sl8
  obtain ⟨v', w', hrun, ho, hg, _, hat⟩ := run_append_own_at (P := Try.prog) w base 25 ty 47 i0 _ 1 24 Try.underlying25 hi0 hz0 hz1 hz2 rfl (by omega) v T.length (T.map Hr.cell) h.1 ad ts.length cx (ts.map Hr.cell) (by simp) hcells (ones_cells ts) (by unfold maxLen; omega) (by omega) hbase
  have hne : ∀ a, a.block < w.heap.size → some a.block ≠ v.ownBlock → some (Addr.block a) ≠ v'.ownBlock := fun a ha hb e => by
    rcases hat with h5 | h5
    · exact hb (e.trans h5)
    · rw [h5] at e
      injection e with e
      omega
  have hR : Rws w' base v' (T ++ ts) := by
    refine ⟨by rw [List.length_append, List.map_append]; exact ho, fun x hx => ?_⟩
    have hsz := hg.size
    have key : x.2.2.length ≤ x.2.1 ∧ x.2.2.length ≤ 1000000 ∧ Sl w 0 w.heap.size 1 x.1 (By x.2.2) ∧ ∀ a, x.1 = some a → a.block < w.heap.size ∧ some a.block ≠ v.ownBlock := by
      rcases List.mem_append.1 hx with hx | hx
      · exact h.2 x hx
      · exact hts x hx
    obtain ⟨k1, k2, k3, k4⟩ := key
    refine ⟨k1, k2, (k3.keep (fun a ha => hg.block _ (k4 a ha).1 (k4 a ha).2)).more (by omega), fun a ha => ⟨by have := (k4 a ha).1; omega, hne a (k4 a ha).1 (k4 a ha).2⟩⟩
  obtain ⟨A', c', hv, hc⟩ := hR.form
  rw [List.length_append] at hv hc
  have hv : v' = .slice A' (T.length + ts.length) c' := hv
  subst hv
  exact ⟨A', c', w', hrun, hc, hR, hg⟩
set_option maxRecDepth 100000 in
theorem grow_any (n : Nat) (w : World) (h1 : 1 ≤ n) (h2 : n ≤ 1000) : Calls Try.prog 52 #[.slice none 0 0, .int .i64 n] w fun e w' => (∃ A c, e = .returned (.slice A 0 c) ∧ Rws w' w.heap.size (.slice A 0 c) []) ∧ Below w.heap.size w w' := by
  obtain ⟨i0, hi0, hz0, hz1, hz2⟩ := info_parts info_sl8
  have hzc : ∀ m : Nat, (Builtin.zeroCells (Value.slice none 0 0).cells m).toList = (List.replicate m (Value.slice none 0 0)) := by
    intro m
    simp [Builtin.zeroCells, Value.cells, Nat.mod_one, List.map_const']
  obtain ⟨v', w', hrun, ho, hg, _⟩ := run_append_zeros (P := Try.prog) w w.heap.size 25 3 25 47 i0 _ 1 24 Try.underlying25 Try.underlying3 hi0 hz0 hz1 hz2 rfl (by omega) (by omega) (.slice none 0 0) 0 [] (World.ownsRow_nil w _ _ _) .i64 n (by rw [hzc]; intro u hu; rw [List.mem_replicate] at hu; rw [hu.2]; rfl) (by omega) (Nat.le_refl _)
  have hb : Below w.heap.size w w' := below_grown (Below.refl _ _) hg (Nat.le_refl _) (fun k e => by simp [Value.ownBlock] at e)
  rcases ho.2 with ⟨_, h0⟩ | ⟨g, cap, cur, rfl, hg1, hg2, hg3, hg4, hg5, _⟩
  · omega
  have hR : Rws w' w.heap.size (.slice (some ⟨g, 0, none⟩) 0 cap) [] := ⟨⟨by simp, .inr ⟨g, cap, cur, rfl, hg1, hg2, Nat.zero_le _, hg4, hg5, by simp⟩⟩, fun t ht => by simp at ht⟩
  rw [Nat.zero_add] at hrun
  have hn1 : (0 : Int) < n := by omega
  have hn2 : (n : Int) ≤ 1000 := by omega
  have hcap : 0 ≤ cap := Nat.zero_le _
  replace hR := hide hR; replace hzc := hide hzc
  clear ho hg hg1 hg2 hg3 hg4 hg5 hi0 hz0 hz1 hz2
  go_enter Try.func52, Try.ntmps52
  go_wp2_with (at_builtin; refine wpList_step (fun K hK => step_append0_ex (o := ⟨some 22, _, _, _, _, _⟩) (.tmp 20) (.tmp 21) 25 3 rfl (by rfl) ⟨_, _, hrun, hK _ _ ?_⟩))
  go_ret
  exact ⟨⟨_, _, rfl, unhide hR⟩, hb⟩
set_option maxRecDepth 100000 in
set_option maxHeartbeats 2000000 in
theorem concat_any (T1 T2 : List Hr) (A1 A2 : Addr) (c1 c2 bb : Nat) (w : World) (h1 : 1 ≤ T1.length ∧ T1.length ≤ 100) (h2 : 1 ≤ T2.length ∧ T2.length ≤ 100) (hbb : bb < w.heap.size)
    (g0 : w.cell? ⟨bb, 0, none⟩ = some (.slice (some A1) T1.length c1)) (g1 : w.cell? ⟨bb, 1, none⟩ = some (.slice (some A2) T2.length c2))
    (hx1 : ∀ j u, (T1.map Hr.cell)[j]? = some u → w.cell? (A1.add j) = some u) (hx2 : ∀ j u, (T2.map Hr.cell)[j]? = some u → w.cell? (A2.add j) = some u)
    (hts : ∀ t ∈ T1 ++ T2, t.2.2.length ≤ t.2.1 ∧ t.2.2.length ≤ 1000000 ∧ Sl w 0 w.heap.size 1 t.1 (By t.2.2) ∧ ∀ a, t.1 = some a → a.block < w.heap.size) :
    Calls Try.prog 31 #[.slice (some ⟨bb, 0, none⟩) 2 2] w fun e w' => (∃ A c, e = .returned (.slice A (T1.length + T2.length) c) ∧ T1.length + T2.length ≤ c ∧ Rws w' w.heap.size (.slice A (T1.length + T2.length) c) (T1 ++ T2)) ∧ Below w.heap.size w w' := by
  have hgr := grow_any (T1.length + T2.length) w (by omega) (by omega)
  rw [show (((T1.length + T2.length : Nat)) : Int) = (T1.length : Int) + T2.length from by simp] at hgr
  have hn1 : 0 ≤ (T1.length : Int) ∧ (T1.length : Int) ≤ 100 := by omega
  have hn2 : 0 ≤ (T2.length : Int) ∧ (T2.length : Int) ≤ 100 := by omega
  replace hts := hide hts; replace hx1 := hide hx1; replace hx2 := hide hx2; replace hgr := hide hgr
  go_enter Try.func31, Try.ntmps31
  go_wp2_with fail
  go_loopw [3, 5, 11] (fun s3 s5 s11 wr => w = wr ∧ ((s11 = .int .i64 0 ∧ s3 = .int .i64 0) ∨ (s11 = .int .i64 1 ∧ s3 = .int .i64 T1.length) ∨ (s11 = .int .i64 2 ∧ s3 = .int .i64 ((T1.length : Int) + T2.length)))) (fun _ _ s11 _ => 2 - (intOf s11).toNat)
  case atStart => exact ⟨rfl, .inl ⟨rfl, rfl⟩⟩
  case round =>
    obtain ⟨rfl, ⟨rfl, rfl⟩ | ⟨rfl, rfl⟩ | ⟨rfl, rfl⟩⟩ := hrel
    · go_wp2_with fail
      go_roundw
      case rel => refine ⟨trivial, ?_⟩; simp
      case measure => simp [intOf]
    · go_wp2_with fail
      go_roundw
      case rel => refine ⟨trivial, ?_⟩; simp
      case measure => simp [intOf]
    · go_wp2_with fail
      (with_reducible refine (unhide hgr).mono ?_)
      rintro e w1 ⟨⟨A0, c0, rfl, hR0⟩, hb1⟩
      have hts := unhide hts; have hx1 := unhide hx1; have hx2 := unhide hx2
      replace hts := hide hts; replace hx1 := hide hx1; replace hx2 := hide hx2
      clear hgr
      go_wp2_with fail
      go_loopw [6, 8, 27] (fun s6 s8 s27 wr => ∃ (A : Option Addr) (c : Nat), Below w.heap.size w wr ∧ ((s27 = .int .i64 0 ∧ s6 = .slice A 0 c ∧ Rws wr w.heap.size (.slice A 0 c) []) ∨ (s27 = .int .i64 1 ∧ s6 = .slice A T1.length c ∧ Rws wr w.heap.size (.slice A T1.length c) T1) ∨ (s27 = .int .i64 2 ∧ s6 = .slice A (T1.length + T2.length) c ∧ T1.length + T2.length ≤ c ∧ Rws wr w.heap.size (.slice A (T1.length + T2.length) c) (T1 ++ T2)))) (fun _ _ s27 _ => 2 - (intOf s27).toNat)
      case atStart => exact ⟨A0, c0, hb1, .inl ⟨rfl, rfl, hR0⟩⟩
      case round =>
        obtain ⟨A, c, hb, hcase⟩ := hrel
        have hz := hb.size
        clear hR0 hb1
        rcases hcase with ⟨rfl, rfl, hR⟩ | ⟨rfl, rfl, hR⟩ | ⟨rfl, rfl, hcc, hR⟩
        · have hcl := (hb.cell (p := ⟨bb, 0, none⟩) hbb).trans g0
          have hlt := fun g e => hR.1.lt g e
          obtain ⟨A3, c3, w3, hrun, hc3, hR3, hg3⟩ := Rws.app_src wr w.heap.size _ [] hR T1 T1.length rfl A1 c1 (fun j u hu => by
            have h5 := unhide hx1 j u hu
            have h6 := World.block_lt_of_cell? _ _ h5
            exact (hb.cell h6).trans h5) (fun t ht => by
            obtain ⟨k1, k2, k3, k4⟩ := unhide hts t (by simp [ht])
            exact ⟨k1, k2, (k3.below hb).more hz, fun a ha => ⟨Nat.lt_of_lt_of_le (k4 a ha) hz, fun e => by have := (hlt a.block e.symm).1; have := k4 a ha; omega⟩⟩) (by first | omega | (simp; omega)) hz 25
          have hb3 : Below w.heap.size w w3 := below_grown hb hg3 hz (fun k e => (hlt k e).1)
          rw [List.nil_append] at hR3; rw [List.length_nil, Nat.zero_add] at hrun hc3 hR3
          replace hR3 := hide hR3
          clear hlt hg3 hR
          go_wp2_with (at_builtin; refine wpList_step (fun K hK => step_append_ex (o := ⟨some 33, _, _, _, _, _⟩) (.tmp 31) (.tmp 32) 25 rfl (by rfl) ⟨_, _, hrun, hK _ _ ?_⟩))
          go_roundw
          case rel => exact ⟨A3, c3, hb3, .inr (.inl ⟨by first | rfl | simp, rfl, unhide hR3⟩)⟩
          case measure => simp [intOf]
        · have hcl := (hb.cell (p := ⟨bb, 1, none⟩) hbb).trans g1
          have hlt := fun g e => hR.1.lt g e
          obtain ⟨A3, c3, w3, hrun, hc3, hR3, hg3⟩ := Rws.app_src wr w.heap.size _ T1 hR T2 T2.length rfl A2 c2 (fun j u hu => by
            have h5 := unhide hx2 j u hu
            have h6 := World.block_lt_of_cell? _ _ h5
            exact (hb.cell h6).trans h5) (fun t ht => by
            obtain ⟨k1, k2, k3, k4⟩ := unhide hts t (by simp [ht])
            exact ⟨k1, k2, (k3.below hb).more hz, fun a ha => ⟨Nat.lt_of_lt_of_le (k4 a ha) hz, fun e => by have := (hlt a.block e.symm).1; have := k4 a ha; omega⟩⟩) (by first | omega | (simp; omega)) hz 25
          have hb3 : Below w.heap.size w w3 := below_grown hb hg3 hz (fun k e => (hlt k e).1)
          skip
          replace hR3 := hide hR3
          clear hlt hg3 hR
          go_wp2_with (at_builtin; refine wpList_step (fun K hK => step_append_ex (o := ⟨some 33, _, _, _, _, _⟩) (.tmp 31) (.tmp 32) 25 rfl (by rfl) ⟨_, _, hrun, hK _ _ ?_⟩))
          go_roundw
          case rel => exact ⟨A3, c3, hb3, .inr (.inr ⟨by first | rfl | simp, rfl, hc3, unhide hR3⟩)⟩
          case measure => simp [intOf]
        · go_wp2_with fail
          go_ret
          exact ⟨⟨A, c, rfl, hcc, hR⟩, hb⟩
end Go.Proofs.Ytibileffpgnjhaa.Base
