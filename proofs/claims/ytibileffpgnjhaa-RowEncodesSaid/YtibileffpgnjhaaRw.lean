/-
  Rows of bytes: a row of headers that the call owns, each header that of bytes.
-/
import Derived.Test.YtibileffpgnjhaaGo
import Derived.Test.YtibileffpgnjhaaWWords
namespace Go.Proofs.Ytibileffpgnjhaa.Base
open Go.RowKit Go.Proofs.YtibileffpgnjhaaW.PrintWords
set_option linter.unusedSimpArgs false
set_option linter.unusedVariables false
theorem addr_nxt (b o k : Nat) : (⟨b, o, none⟩ : Addr).add k = ⟨b, o + k, none⟩ := by
  unfold Addr.add
  split
  · simp_all
  · simp_all
/-- bytes, as the print's words have them -/
theorem C_of_by {w : World} {L B : Nat} {A : Option Addr} {bs : List Int} (hm : bs.length ≤ 9223372036854775807) (h : Sl w L B 1 A (By bs)) : Kd.C (Kd.int .u8) w A bs.length bs := by
  refine ⟨rfl, hm, fun hp => ?_⟩
  obtain ⟨b, o, rfl, _, _, hr⟩ := h.pos (by rw [By.len]; exact hp)
  refine ⟨_, rfl, fun j p hj => ?_⟩
  have hjl : j < bs.length := (List.getElem?_eq_some_iff.1 hj).1
  have hpj : bs[j] = p := (List.getElem?_eq_some_iff.1 hj).2
  have h1 := hr j (by rw [By.len]; exact hjl)
  have h2 := rd_cell h1 0 (by omega)
  simp only [By, List.getElem_map, hpj] at h2
  refine ⟨[Value.int .u8 p], rfl, rfl, fun q u hu => ?_⟩
  have hq : q = 0 := by
    have := (List.getElem?_eq_some_iff.1 hu).1
    simp at this
    omega
  subst hq
  simp only [List.getElem?_cons_zero, Option.some.injEq] at hu
  subst hu
  rw [show (⟨b, o, none⟩ : Addr).add (j * (Kd.int IntKind.u8).sz + 0) = ⟨b, o + j * 1 + 0, none⟩ from by rw [show (Kd.int IntKind.u8).sz = 1 from rfl, addr_nxt, Nat.add_assoc]]
  exact h2
abbrev Hr := Option Addr × Nat × List Int
def Hr.cell (t : Hr) : Value := .slice t.1 t.2.2.length t.2.1
/-- a row that the call owns of headers of bytes; the bytes lie elsewhere -/
def Rws (w : World) (base : Nat) (v : Value) (T : List Hr) : Prop :=
  w.ownsRow base 47 1 v T.length (T.map Hr.cell) ∧ ∀ t ∈ T, t.2.2.length ≤ t.2.1 ∧ t.2.2.length ≤ 1000000 ∧ Sl w 0 w.heap.size 1 t.1 (By t.2.2) ∧ ∀ a, t.1 = some a → a.block < w.heap.size ∧ some a.block ≠ v.ownBlock
theorem Rws.nil (w : World) (base : Nat) : Rws w base (.slice none 0 0) [] := ⟨World.ownsRow_nil w base _ _, fun t ht => by simp at ht⟩
theorem Sl.keep {w w' : World} {L B sz : Nat} {A : Option Addr} {xs : List (Array Value)} (h : Sl w L B sz A xs) (hk : ∀ a, A = some a → w'.heap[a.block]? = w.heap[a.block]?) : Sl w' L B sz A xs := fun hn => by
  obtain ⟨b, o, rfl, h1, h2, h3⟩ := h hn
  exact ⟨b, o, rfl, h1, h2, fun i hi => (rd_congr (hk _ rfl) _ _).trans (h3 i hi)⟩
theorem Rws.below {w w' : World} {base : Nat} {v : Value} {T : List Hr} (h : Rws w base v T) (hb : Below w.heap.size w w') : Rws w' base v T :=
  ⟨pw_own_below h.1 hb, fun t ht => by
    obtain ⟨h1, h2, h3, h4⟩ := h.2 t ht
    exact ⟨h1, h2, (h3.below hb).more hb.size, fun a ha => ⟨Nat.lt_of_lt_of_le (h4 a ha).1 hb.size, (h4 a ha).2⟩⟩⟩
theorem Rws.form {w : World} {base : Nat} {v : Value} {T : List Hr} (h : Rws w base v T) : ∃ A c, v = .slice A T.length c ∧ T.length ≤ c := by
  rcases h.1.2 with ⟨rfl, h0⟩ | ⟨g, cap, cur, rfl, _, _, hc, _⟩
  · exact ⟨none, 0, by rw [h0], by omega⟩
  · exact ⟨_, cap, rfl, hc⟩
/-- as the print's words have rows of bytes -/
theorem Rws.C {w : World} {base : Nat} {v : Value} {T : List Hr} (h : Rws w base v T) (hm : T.length ≤ 1000000) : ∃ A c, v = .slice A (T.map (·.2.2)).length c ∧ (T.map (·.2.2)).length ≤ c ∧ Kd.C (Kd.slice 5 (Kd.int .u8)) w A (T.map (·.2.2)).length (T.map (·.2.2)) := by
  rcases h.1.2 with ⟨rfl, h0⟩ | ⟨g, cap, cur, rfl, hg, hh, hc1, _, _, _⟩
  · have : T = [] := List.eq_nil_of_length_eq_zero h0
    subst this
    exact ⟨none, 0, rfl, Nat.le_refl _, Kd.C_nil _ _⟩
  · refine ⟨some ⟨g, 0, none⟩, cap, by rw [List.length_map], by rw [List.length_map]; exact hc1, rfl, by rw [List.length_map]; omega, fun _ => ⟨_, rfl, fun j p hj => ?_⟩⟩
    rw [List.getElem?_map] at hj
    obtain ⟨t, ht, rfl⟩ := Option.map_eq_some_iff.1 hj
    obtain ⟨e1, e2, e3, _⟩ := h.2 t (List.mem_of_getElem? ht)
    refine ⟨[t.cell], rfl, ⟨t.1, t.2.1, rfl, e1, C_of_by (by omega) e3⟩, fun q u hu => ?_⟩
    have hq : q = 0 := by
      have := (List.getElem?_eq_some_iff.1 hu).1
      simp at this
      omega
    subst hq
    simp only [List.getElem?_cons_zero, Option.some.injEq] at hu
    subst hu
    have := h.1.cells (g := g) rfl (j * 1 + 0) t.cell (by rw [Nat.mul_one, Nat.add_zero, List.getElem?_map, ht]; rfl)
    exact this
set_option maxRecDepth 100000 in
theorem info_sl8 : (Try.prog.info? 47).map (fun i => (i.zero, i.size, i.bytes)) = some (some (.slice none 0 0), 1, 24) := by kernel_rfl
theorem ones_cells (ts : List Hr) : ∀ u ∈ ts.map Hr.cell, u.oneCell' = true := by
  intro u hu
  obtain ⟨t, _, rfl⟩ := List.mem_map.1 hu
  rfl
/-- more rows of bytes -/
theorem Rws.app (w : World) (base : Nat) (v : Value) (T : List Hr) (h : Rws w base v T) (ts : List Hr) (k : Nat) (hk : ts.length = k) (hts : ∀ t ∈ ts, t.2.2.length ≤ t.2.1 ∧ t.2.2.length ≤ 1000000 ∧ Sl w 0 w.heap.size 1 t.1 (By t.2.2) ∧ ∀ a, t.1 = some a → a.block < w.heap.size ∧ some a.block ≠ v.ownBlock) (hT : T.length + k ≤ 100000) (hbase : base ≤ w.heap.size) (ty : TypeId) :
    ∃ A' c' w', (Builtin.append_ #[25, 25] ty #[v, .slice (some ⟨w.heap.size, 0, none⟩) k k]).run Try.prog (w.alloc (.cells (ts.map Hr.cell).toArray 47)) = .ok (.slice A' (T.length + k) c') w' ∧ T.length + k ≤ c' ∧ Rws w' base (.slice A' (T.length + k) c') (T ++ ts) ∧ (w.alloc (.cells (ts.map Hr.cell).toArray 47)).grownBy w' v.ownBlock := by
  subst hk
  obtain ⟨i0, hi0, hz0, hz1, hz2⟩ := info_parts info_sl8
  obtain ⟨v', w', hrun, ho, hg, _, hat⟩ := run_append_own_at (P := Try.prog) (w.alloc (.cells (ts.map Hr.cell).toArray 47)) base 25 ty 47 i0 _ 1 24 Try.underlying25 hi0 hz0 hz1 hz2 rfl (by omega) v T.length (T.map Hr.cell) (h.1.alloc _) ⟨w.heap.size, 0, none⟩ ts.length ts.length (ts.map Hr.cell) (by simp) (fun j u hu => by
      have hj : j < ts.length := by
        have := (List.getElem?_eq_some_iff.1 hu).1
        simpa using this
      rw [addr_nxt]
      have := rd_cell (rd_new_whole w (ts.map Hr.cell).toArray 47 (0, 0) _ ts.length rfl (by simp)) j hj
      rw [this]
      simpa using hu) (ones_cells ts) (by unfold maxLen; omega) (by omega) (by simp; omega)
  have hne : ∀ a, a.block < w.heap.size → some a.block ≠ v.ownBlock → some (Addr.block a) ≠ v'.ownBlock := fun a ha hb e => by
    rcases hat with h5 | h5
    · exact hb (e.trans h5)
    · rw [h5] at e
      injection e with e
      simp at e
      omega
  have hR : Rws w' base v' (T ++ ts) := by
    refine ⟨by rw [List.length_append, List.map_append]; exact ho, fun x hx => ?_⟩
    have hsz := hg.size
    rw [World.size_alloc] at hsz
    have key : x.2.2.length ≤ x.2.1 ∧ x.2.2.length ≤ 1000000 ∧ Sl w 0 w.heap.size 1 x.1 (By x.2.2) ∧ ∀ a, x.1 = some a → a.block < w.heap.size ∧ some a.block ≠ v.ownBlock := by
      rcases List.mem_append.1 hx with hx | hx
      · exact h.2 x hx
      · exact hts x hx
    obtain ⟨k1, k2, k3, k4⟩ := key
    refine ⟨k1, k2, ((k3.alloc (Nat.le_refl _) _).keep (fun a ha => hg.block _ (by have := (k4 a ha).1; simp; omega) (k4 a ha).2)).more (by omega), fun a ha => ⟨by have := (k4 a ha).1; omega, hne a (k4 a ha).1 (k4 a ha).2⟩⟩
  obtain ⟨A', c', hv, hc⟩ := hR.form
  rw [List.length_append] at hv hc
  have hv : v' = .slice A' (T.length + ts.length) c' := hv
  subst hv
  exact ⟨A', c', w', hrun, hc, hR, hg⟩
/-- bytes that the print's words tell -/
theorem by_of_R {w : World} {base : Nat} {ok : Nat → Prop} {v : Value} {p : List Int} (h : Kd.R (Kd.int .u8) 5 w base ok v p) : ∃ A c, v = .slice A p.length c ∧ p.length ≤ c ∧ Sl w base w.heap.size 1 A (By p) ∧ ∀ a, A = some a → base ≤ a.block ∧ a.block < w.heap.size := by
  have ho := Kd.own_of_R h
  have ho' : Ow w base 5 1 v (By p) := by unfold Ow; rw [By.len, flat_by]; exact ho
  obtain ⟨A, c, hv, hc, _⟩ := ho'.form
  rw [By.len] at hv hc
  subst hv
  exact ⟨A, c, rfl, hc, ho'.sl (By.sized _) (by omega), fun a ha => by subst ha; exact ho'.lt _ rfl⟩
end Go.Proofs.Ytibileffpgnjhaa.Base
