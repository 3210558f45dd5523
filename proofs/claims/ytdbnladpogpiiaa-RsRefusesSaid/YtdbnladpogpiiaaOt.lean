/-
  Rows of a call's own, each in a block of its own: what rs.add does to one of them.
-/
import Derived.Test.YtdbnladpogpiiaaPl
import Derived.Test.YtdbnladpogpiiaaPRqx4
namespace Go.Proofs.Ytdbnladpogpiiaa.Ot
open Go.RowKit Go.Proofs.YtdbnladpogpiiaaW.PrintWords
open Go.Proofs.Ytdbnladpogpiiaa.PRq Go.Proofs.Ytdbnladpogpiiaa.Fld Go.Proofs.Ytdbnladpogpiiaa.Pl
set_option linter.unusedSimpArgs false
set_option linter.unusedVariables false

/-! ### rs.add, plainly -/
def partA (tt x : List Int) (b : Int) (j : Nat) : List Int := tt.mapIdx fun k a => if k < j then xorI a (mulI (at_ x k) b) else a
theorem partA_len (tt x : List Int) (b : Int) (j : Nat) : (partA tt x b j).length = tt.length := by simp [partA]
theorem partA_zero (tt x : List Int) (b : Int) : partA tt x b 0 = tt := by
  unfold partA
  apply List.ext_getElem
  · simp
  · intro i h1 h2; simp
theorem partA_at (tt x : List Int) (b : Int) (j : Nat) (hj : j < tt.length) : at_ (partA tt x b j) j = at_ tt j := by
  rw [at_lt (by rw [partA_len]; exact hj), at_lt hj]
  simp [partA]
theorem partA_set (tt x : List Int) (b : Int) (j : Nat) (hj : j < tt.length) : (partA tt x b j).set j (xorI (at_ tt j) (mulI (at_ x j) b)) = partA tt x b (j + 1) := by
  apply List.ext_getElem
  · simp [partA]
  · intro i h1 h2
    simp only [partA, List.length_mapIdx] at h2
    rw [List.getElem_set]
    split
    · rename_i e
      subst e
      simp [partA, at_lt hj]
    · rename_i e
      simp only [partA, List.getElem_mapIdx]
      by_cases hi : i < j
      · rw [if_pos hi, if_pos (by omega)]
      · rw [if_neg hi, if_neg (by omega)]
theorem addR_len (tt x : List Int) (b : Int) : (addR tt x b).length = tt.length := by simp [addR]
theorem bytes_addR {tt x : List Int} {b : Int} (h1 : Bytes tt) (h2 : Bytes x) (hb : Byt b) : Bytes (addR tt x b) := by
  intro y hy
  obtain ⟨i, hi, rfl⟩ := List.getElem_of_mem hy
  rw [addR_len] at hi
  simp only [addR, List.getElem_mapIdx]
  split
  · exact byt_xor (h1 _ (List.getElem_mem hi)) (byt_mul hb)
  · exact h1 _ (List.getElem_mem hi)
theorem add_l0 (tt x : List Int) (b : Int) (hl : x.length ≤ tt.length) (hm : x.length ≤ 1000000) (h1 : Bytes tt) (h2 : Bytes x) (hb : Byt b) : ∀ d j, x.length - j = d → j ≤ x.length → Ev (fun k => rs_add.l0 k (partA tt x b j) b x (x.length : Int) (j : Int)) (addR tt x b)
  | 0, j, hd, hj => by
    obtain rfl : j = x.length := by omega
    refine Ev.step (f := fun _ => some (addR tt x b)) (fun k => ?_) (Ev.now _)
    rw [rs_add.l0, if_neg (by omega)]
    rfl
  | d + 1, j, hd, hj => by
    refine Ev.step (f := fun k => rs_add.l0 k (partA tt x b (j + 1)) b x (x.length : Int) ((j + 1 : Nat) : Int)) (fun k => ?_) (add_l0 tt x b hl hm h1 h2 hb d (j + 1) (by omega) (by omega))
    rw [rs_add.l0, if_pos (by omega), if_pos (by omega), if_pos (by omega), if_pos (by rw [partA_len]; omega), w64 (by omega) (by omega), rd_nat, rd_nat, mul_f (byt_at h2 j) hb]
    simp only [Option.bind_some, Int.toNat_natCast]
    rw [partA_at _ _ _ _ (by omega), xor_u8 (byt_at h1 j) (byt_mul hb), partA_set _ _ _ _ (by omega)]
    rfl
theorem add_ev (tt x : List Int) (b : Int) (hl : x.length ≤ tt.length) (hm : x.length ≤ 1000000) (h1 : Bytes tt) (h2 : Bytes x) (hb : Byt b) : Ev (fun k => rs_add.f k tt x b) (addR tt x b) := by
  have := add_l0 tt x b hl hm h1 h2 hb x.length 0 (by omega) (by omega)
  rw [partA_zero] at this
  exact this

/-! ### a row of bytes of the call's own -/
def BR (w : World) (base : Nat) (v : Value) (r : List Int) : Prop := w.ownsRow base 5 1 v r.length (encs (Value.int .u8) r)
theorem BR.R {w : World} {base : Nat} {v : Value} {r : List Int} {ok : Nat → Prop} (h : BR w base v r) (hok : ∀ k, v.ownBlock = some k → ok k) : Kd.R (Kd.int .u8) 5 w base ok v r := Kd.R_of_own h hok
theorem BR.of {w : World} {base : Nat} {v : Value} {r : List Int} {ok : Nat → Prop} (h : Kd.R (Kd.int .u8) 5 w base ok v r) : BR w base v r := Kd.own_of_R h
theorem BR.slice {w : World} {base : Nat} {v : Value} {r : List Int} (h : BR w base v r) : ∃ A c, v = .slice A r.length c ∧ r.length ≤ c ∧ Kd.C (Kd.int .u8) w A r.length r := Kd.R_reads (h.R (ok := fun _ => True) (fun _ _ => trivial))
theorem BR.move {w w1 : World} {base : Nat} {v : Value} {r : List Int} (h : BR w base v r) (hm : ∀ k, v.ownBlock = some k → w1.heap[k]? = w.heap[k]?) : BR w1 base v r := own_move h hm
theorem BR.below {w w1 : World} {base : Nat} {v : Value} {r : List Int} (h : BR w base v r) (hb : Below w.heap.size w w1) : BR w1 base v r := pw_own_below h hb
theorem BR.kept {w w1 : World} {base : Nat} {v u : Value} {r : List Int} (h : BR w base v r) (hk : Kept w w1 (fun k => some k = u.ownBlock)) (hne : ∀ k, v.ownBlock = some k → u.ownBlock ≠ some k) : BR w1 base v r :=
  h.move (fun k e => hk.2 k (own_lt h k e) (fun h2 => hne k e h2.symm))
theorem BR.C_kept {w w1 : World} {base c n : Nat} {A : Option Addr} {u : Value} {r : List Int} (h : BR w base (.slice A n c) r) (hk : Kept w w1 (fun k => some k = u.ownBlock)) (hne : ∀ k, (Value.slice A n c).ownBlock = some k → u.ownBlock ≠ some k) : Kd.C (Kd.int .u8) w1 A r.length r := by
  obtain ⟨A', c', e, _, h2⟩ := (h.kept hk hne).slice
  cases e
  exact h2
/-- rs.add -/
theorem add_any {w0 w : World} {v g : Value} {tt x : List Int} {b : Int} (hB : Below w0.heap.size w0 w) (h : BR w w0.heap.size v tt) (hg : BR w w0.heap.size g x) (hne : ∀ k, g.ownBlock = some k → v.ownBlock ≠ some k)
    (hl : x.length ≤ tt.length) (hm : x.length ≤ 1000000) (h1 : Bytes tt) (h2 : Bytes x) (hb : Byt b) :
    Calls Try.prog 35 #[v, g, .int .u8 b] w fun e w' => e = .returned (.tuple #[]) ∧ BR w' w0.heap.size v (addR tt x b) ∧ Below w0.heap.size w0 w' ∧ Kept w w' (fun k => some k = v.ownBlock) := by
  obtain ⟨k, hk⟩ := (add_ev tt x b hl hm h1 h2 hb).rounds
  obtain ⟨A, c, rfl, hc, _⟩ := hg.slice
  refine (rs_add.calls k (fun k => some k = v.ownBlock) v tt A c x b _ w0 w hB (h.R (fun k e => e.symm)) (fun W hW => hg.C_kept hW hne) hc hk).mono ?_
  rintro e w' ⟨rfl, g1, g2, g3⟩
  exact ⟨rfl, BR.of g1, g2, g3⟩

/-! ### rows of rows -/
structure Out (w : World) (base G : Nat) (hs : List Value) (rows : List (List Int)) : Prop where
  head : w.ownsRow base 22 1 (.slice (some ⟨G, 0, none⟩) rows.length rows.length) rows.length hs
  row : ∀ (i : Nat) (h : Value) (r : List Int), hs[i]? = some h → rows[i]? = some r → BR w base h r
  apart : ∀ (i j : Nat) (h g : Value) (k : Nat), i ≠ j → hs[i]? = some h → hs[j]? = some g → h.ownBlock = some k → g.ownBlock ≠ some k
  max : rows.length ≤ 1000000
namespace Out
variable {w w1 : World} {base G i : Nat} {hs : List Value} {rows : List (List Int)} {h v : Value} {r : List Int}
theorem len (O : Out w base G hs rows) : hs.length = rows.length := by have := O.head.1; omega
theorem lt (O : Out w base G hs rows) : G < w.heap.size := own_lt O.head G rfl
theorem baseG (O : Out w base G hs rows) : base ≤ G := own_base O.head G rfl
theorem below (O : Out w base G hs rows) (hb : Below w.heap.size w w1) : Out w1 base G hs rows := ⟨pw_own_below O.head hb, fun i h r h1 h2 => (O.row i h r h1 h2).below hb, O.apart, O.max⟩
theorem at_ (O : Out w base G hs rows) (hi : i < rows.length) : ∃ A c, hs[i]? = some (.slice A (Fld.row rows i).length c) ∧ w.cell? ⟨G, i, none⟩ = some (.slice A (Fld.row rows i).length c) ∧ w.frozen? ⟨G, i, none⟩ = false ∧ BR w base (.slice A (Fld.row rows i).length c) (Fld.row rows i) := by
  have hl := O.len
  have hi2 : i < hs.length := by omega
  have hr := O.row i hs[i] rows[i] (List.getElem?_eq_getElem hi2) (List.getElem?_eq_getElem hi)
  obtain ⟨A, c, e, _⟩ := hr.slice
  rw [row_lt hi]
  refine ⟨A, c, by rw [List.getElem?_eq_getElem hi2, e], ?_, ?_, by rw [← e]; exact hr⟩
  · rw [O.head.cellAt i (by omega), List.getElem?_eq_getElem hi2, e]
  · rcases O.head.2 with ⟨h', _⟩ | ⟨g', cap', cur, h', _, hh, _⟩
    · cases h'
    · cases h'
      simp [World.frozen?, hh]
theorem get (O : Out w base G hs rows) (hi : i < rows.length) : ∃ h, hs[i]? = some h := ⟨hs[i]'(by have := O.len; omega), List.getElem?_eq_getElem _⟩
theorem cell (O : Out w base G hs rows) (hi : hs[i]? = some h) : w.cell? ⟨G, i, none⟩ = some h := by
  have hl := O.len
  have h1 := (List.getElem?_eq_some_iff.1 hi).1
  rw [O.head.cellAt i (by omega), hi]
theorem frozen (O : Out w base G hs rows) (i : Nat) : w.frozen? ⟨G, i, none⟩ = false := by
  rcases O.head.2 with ⟨h', _⟩ | ⟨g', cap', cur, h', _, hh, _⟩
  · cases h'
  · cases h'
    simp [World.frozen?, hh]
theorem R (O : Out w base G hs rows) : Kd.R (Kd.slice 5 (Kd.int .u8)) 22 w base (fun k => base ≤ k) (.slice (some ⟨G, 0, none⟩) rows.length rows.length) rows := by
  have hl := O.len
  refine ⟨fun k hk => own_base O.head k hk, hs, O.head, by rw [hl]; show _ = _ * 1; omega, fun j p hj => ?_⟩
  have hjl : j < rows.length := (List.getElem?_eq_some_iff.1 hj).1
  have hj2 : j < hs.length := by omega
  refine ⟨hs[j], ?_, (O.row j hs[j] p (List.getElem?_eq_getElem hj2) hj).R (fun k hk => ⟨own_base (O.row j hs[j] p (List.getElem?_eq_getElem hj2) hj) k hk, fun he => ?_⟩)⟩
  · show (hs.drop (j * 1)).take 1 = [hs[j]]
    rw [Nat.mul_one, List.drop_eq_getElem_cons hj2]
    rfl
  · rcases own_type_ne (O.row j hs[j] p (List.getElem?_eq_getElem hj2) hj) O.head (by decide) with h1 | h1
    · rw [h1] at hk; cases hk
    · exact h1 (by rw [hk, he])
theorem N (O : Out w base G hs rows) : Kd.N (Kd.slice 5 (Kd.int .u8)) 22 w base (fun k => base ≤ k) (.slice (some ⟨G, 0, none⟩) rows.length rows.length) rows := Kd.R_N O.R
theorem C (O : Out w base G hs rows) {m : Nat} (hm : m ≤ rows.length) : Kd.C (Kd.slice 5 (Kd.int .u8)) w (some ⟨G, 0, none⟩) (rows.take m).length (rows.take m) := (Kd.R_reads' (Kd.R_take O.R hm)).2.2
/-- A row has been written. -/
theorem put (O : Out w base G hs rows) (hi : hs[i]? = some h) (hk : Kept w w1 (fun k => some k = h.ownBlock)) (hr : BR w1 base h r) : Out w1 base G hs (rows.set i r) := by
  have hl := O.len
  refine ⟨?_, fun j g q hj hq => ?_, O.apart, by rw [List.length_set]; exact O.max⟩
  · rw [List.length_set]
    refine own_move O.head (fun k e => hk.2 k (own_lt O.head k e) (fun h2 => ?_))
    have hil : i < rows.length := by have := (List.getElem?_eq_some_iff.1 hi).1; omega
    rcases own_type_ne (O.row i h rows[i] hi (List.getElem?_eq_getElem hil)) O.head (by decide) with h1 | h1
    · rw [h1] at h2; cases h2
    · exact h1 (by rw [← h2, e])
  · by_cases e : i = j
    · subst e
      rw [hi] at hj
      cases hj
      have hil : i < rows.length := by have := (List.getElem?_eq_some_iff.1 hi).1; omega
      rw [List.getElem?_set_self hil] at hq
      cases hq
      exact hr
    · rw [List.getElem?_set_ne e] at hq
      exact (O.row j g q hj hq).kept hk (fun k hk1 => O.apart j i g h k (Ne.symm e) hj hi hk1)
/-- A row has been put in another's place. -/
theorem set (O : Out w base G hs rows) (hi : i < rows.length) (hr : BR w base v r) (hv : ∀ (j : Nat) (g : Value) (k : Nat), hs[j]? = some g → g.ownBlock = some k → v.ownBlock ≠ some k) : Out (w.setCell ⟨G, i, none⟩ v) base G (hs.set i v) (rows.set i r) := by
  have hl := O.len
  have hst := O.head.stored i v
  have hG : ∀ {u : Value} {q : List Int}, BR w base u q → BR (w.setCell ⟨G, i, none⟩ v) base u q := fun {u q} hu => by
    refine hu.move (fun k e => Below.heap_setCell w ⟨G, i, none⟩ v k (fun e2 => ?_))
    rcases own_type_ne hu O.head (by decide) with h1 | h1
    · rw [h1] at e; cases e
    · exact h1 (by rw [e, e2]; rfl)
  refine ⟨?_, fun j g q hj hq => ?_, fun a b h g k hab ha hb he => ?_, by rw [List.length_set]; exact O.max⟩
  · rw [List.length_set]
    exact hst.1
  · by_cases e : i = j
    · subst e
      rw [List.getElem?_set_self (by omega)] at hj
      rw [List.getElem?_set_self (by omega)] at hq
      cases hj
      cases hq
      exact hG hr
    · rw [List.getElem?_set_ne e] at hj hq
      exact hG (O.row j g q hj hq)
  · by_cases e1 : i = a
    · subst e1
      rw [List.getElem?_set_self (by omega)] at ha
      rw [List.getElem?_set_ne hab] at hb
      cases ha
      intro h2
      exact hv b g k hb h2 he
    · rw [List.getElem?_set_ne e1] at ha
      by_cases e2 : i = b
      · subst e2
        rw [List.getElem?_set_self (by omega)] at hb
        cases hb
        exact hv a h k ha he
      · rw [List.getElem?_set_ne e2] at hb
        exact O.apart a b h g k hab ha hb he
end Out
/-- a row beside them -/
def Beside (w : World) (base : Nat) (hs : List Value) (v : Value) (r : List Int) : Prop := BR w base v r ∧ ∀ (j : Nat) (g : Value) (k : Nat), hs[j]? = some g → g.ownBlock = some k → v.ownBlock ≠ some k
theorem Beside.kept {w w1 : World} {base i : Nat} {hs : List Value} {v h : Value} {r : List Int} (hb : Beside w base hs v r) (hi : hs[i]? = some h) (hk : Kept w w1 (fun k => some k = h.ownBlock)) : Beside w1 base hs v r :=
  ⟨hb.1.kept hk (fun k e h2 => hb.2 i h k hi h2 e), hb.2⟩
theorem Beside.below {w w1 : World} {base : Nat} {hs : List Value} {v : Value} {r : List Int} (hb : Beside w base hs v r) (h : Below w.heap.size w w1) : Beside w1 base hs v r := ⟨hb.1.below h, hb.2⟩
/-- rs.add to one of the rows, of one beside them. -/
theorem out_add {w0 w : World} {G i : Nat} {hs : List Value} {rows : List (List Int)} {h g : Value} {x : List Int} {b : Int} (hB : Below w0.heap.size w0 w) (O : Out w w0.heap.size G hs rows) (hi : hs[i]? = some h) (hg : Beside w w0.heap.size hs g x)
    (hl : x.length ≤ (row rows i).length) (hm : x.length ≤ 1000000) (h1 : Bytes (row rows i)) (h2 : Bytes x) (hb : Byt b) :
    Calls Try.prog 35 #[h, g, .int .u8 b] w fun e w' => e = .returned (.tuple #[]) ∧ Out w' w0.heap.size G hs (rows.set i (addR (row rows i) x b)) ∧ Below w0.heap.size w0 w' ∧ Kept w w' (fun k => some k = h.ownBlock) := by
  have hil : i < rows.length := by have := (List.getElem?_eq_some_iff.1 hi).1; have := O.len; omega
  have hr := O.row i h rows[i] hi (List.getElem?_eq_getElem hil)
  rw [← row_lt hil] at hr
  refine (add_any hB hr hg.1 (fun k e h3 => hg.2 i h k hi h3 e) hl hm h1 h2 hb).mono ?_
  rintro e w' ⟨rfl, g1, g2, g3⟩
  exact ⟨rfl, O.put hi g3 g1, g2, g3⟩
/-- .. of another one of them. -/
theorem out_add_row {w0 w : World} {G i j : Nat} {hs : List Value} {rows : List (List Int)} {h g : Value} {b : Int} (hB : Below w0.heap.size w0 w) (O : Out w w0.heap.size G hs rows) (hi : hs[i]? = some h) (hj : hs[j]? = some g) (hij : i ≠ j)
    (hl : (row rows j).length ≤ (row rows i).length) (hm : (row rows j).length ≤ 1000000) (h1 : Bytes (row rows i)) (h2 : Bytes (row rows j)) (hb : Byt b) :
    Calls Try.prog 35 #[h, g, .int .u8 b] w fun e w' => e = .returned (.tuple #[]) ∧ Out w' w0.heap.size G hs (rows.set i (addR (row rows i) (row rows j) b)) ∧ Below w0.heap.size w0 w' ∧ Kept w w' (fun k => some k = h.ownBlock) := by
  have hil : i < rows.length := by have := (List.getElem?_eq_some_iff.1 hi).1; have := O.len; omega
  have hjl : j < rows.length := by have := (List.getElem?_eq_some_iff.1 hj).1; have := O.len; omega
  have hr := O.row i h rows[i] hi (List.getElem?_eq_getElem hil)
  have hs2 := O.row j g rows[j] hj (List.getElem?_eq_getElem hjl)
  rw [← row_lt hil] at hr
  rw [← row_lt hjl] at hs2
  refine (add_any hB hr hs2 (fun k e => O.apart j i g h k (Ne.symm hij) hj hi e) hl hm h1 h2 hb).mono ?_
  rintro e w' ⟨rfl, g1, g2, g3⟩
  exact ⟨rfl, O.put hi g3 g1, g2, g3⟩
end Go.Proofs.Ytdbnladpogpiiaa.Ot
