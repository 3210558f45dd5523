/-
  Words for memory: a range of cells of a block read as a whole ('rd'), written as a whole ('wr'), and whole-range rules for loads and stores of aggregates.
-/
import Derived.WalkKit
import Derived.WalkSpells
import Derived.WalkLawsBesides
import Derived.Deep.MidRow
import Derived.Deep.Draws
import Derived.Lib.Hide
import Derived.ChangeKeysEq
import Derived.Maps.AppendAt
import Derived.Deep.AppendLies
import Derived.OwnWalk
import Derived.Laws.StructEq
namespace Go.Proofs.Ytnihgfhaenpfkaa.Base
set_option linter.unusedSimpArgs false
set_option linter.unusedVariables false
open Go.RowKit

theorem hide {p : Prop} (h : p) : Hid p := h
theorem unhide {p : Prop} (h : Hid p) : p := h

/-- n cells of block b from offset o on. -/
def rd (w : World) (b o n : Nat) : Option (Array Value) :=
  match w.heap[b]? with
  | some (.cells c _ _) => if o + n ≤ c.size then some (c.extract o (o + n)) else none
  | _ => none

/-- n cells of block b from offset o on are there and may be written. -/
def canW (w : World) (b o n : Nat) : Bool :=
  match w.heap[b]? with
  | some (.cells c _ fr) => decide (o + n ≤ c.size) && decide (fr = (0, 0))
  | _ => false

def wr (w : World) (b o : Nat) (cs : Array Value) : World := w.setCells b o cs.toList

theorem rd_congr {w w' : World} {b : Nat} (h : w'.heap[b]? = w.heap[b]?) (o n : Nat) : rd w' b o n = rd w b o n := by unfold rd; rw [h]
theorem canW_congr {w w' : World} {b : Nat} (h : w'.heap[b]? = w.heap[b]?) (o n : Nat) : canW w' b o n = canW w b o n := by unfold canW; rw [h]

theorem rd_cell {w : World} {b o n : Nat} {cs : Array Value} (h : rd w b o n = some cs) (j : Nat) (hj : j < n) : w.cell? ⟨b, o + j, none⟩ = cs[j]? := by
  unfold rd at h
  unfold World.cell?
  cases hb : w.heap[b]? with
  | none => simp [hb] at h
  | some x =>
    cases x <;> simp [hb] at h
    rename_i c e fr
    obtain ⟨h1, rfl⟩ := h
    simp [Array.getElem?_extract]
    omega

theorem rd_size {w : World} {b o n : Nat} {cs : Array Value} (h : rd w b o n = some cs) : cs.size = n := by
  unfold rd at h
  cases hb : w.heap[b]? with
  | none => simp [hb] at h
  | some x =>
    cases x <;> simp [hb] at h
    obtain ⟨h1, rfl⟩ := h
    simp; omega

theorem rd_lt {w : World} {b o n : Nat} {cs : Array Value} (h : rd w b o n = some cs) : b < w.heap.size := by
  unfold rd at h
  cases hb : w.heap[b]? with
  | none => simp [hb] at h
  | some x => exact (Array.getElem?_eq_some_iff.1 hb).1

/-- a part of what is read -/
theorem rd_part {w : World} {b o n : Nat} {cs : Array Value} (h : rd w b o n = some cs) (k m : Nat) (hk : k + m ≤ n) : rd w b (o + k) m = some (cs.extract k (k + m)) := by
  unfold rd at h ⊢
  cases hb : w.heap[b]? with
  | none => simp [hb] at h
  | some x =>
    cases x <;> simp [hb] at h
    rename_i c e fr
    obtain ⟨h1, rfl⟩ := h
    simp only
    rw [if_pos (by omega)]
    simp [Array.extract_extract]
    congr 1 <;> omega

theorem rd_of_cells {w : World} {b o : Nat} {cs : Array Value} (hpos : 0 < cs.size) (h : ∀ j, j < cs.size → w.cell? ⟨b, o + j, none⟩ = cs[j]?) : rd w b o cs.size = some cs := by
  unfold rd
  have hl := h (cs.size - 1) (by omega)
  unfold World.cell? at hl
  cases hb : w.heap[b]? with
  | none => rw [hb] at hl; simp at hl; omega
  | some x =>
    cases x <;> rw [hb] at hl <;> simp at hl
    case cells c e fr =>
      have hsz : o + (cs.size - 1) < c.size := by
        rcases Nat.lt_or_ge (o + (cs.size - 1)) c.size with h' | h'
        · exact h'
        · rw [Array.getElem?_eq_none h', Array.getElem?_eq_getElem (by omega)] at hl; simp at hl
      simp only
      rw [if_pos (by omega)]
      congr 1
      apply Array.ext_getElem?
      intro j
      rw [Array.getElem?_extract]
      by_cases hj : j < cs.size
      · have := h j hj
        unfold World.cell? at this
        rw [hb] at this
        simp at this
        rw [if_pos (by omega), this]
      · rw [if_neg (by omega), Array.getElem?_eq_none (by omega)]
    all_goals omega

theorem rd_one {w : World} {b o : Nat} {v : Value} (h : w.cell? ⟨b, o, none⟩ = some v) : rd w b o 1 = some #[v] :=
  rd_of_cells (cs := #[v]) (by simp) (fun j hj => by
    have : j = 0 := by simp at hj; omega
    subst this; simpa using h)

theorem rd_zero_le {w : World} {b o n : Nat} {cs : Array Value} (h : rd w b o n = some cs) : rd w b o 0 = some #[] := by
  have := rd_part h 0 0 (by omega)
  simpa using this

/-! ### the frame -/
theorem rd_below {B : Nat} {w w' : World} (hb : Below B w w') {b : Nat} (h : b < B) (o n : Nat) : rd w' b o n = rd w b o n := rd_congr (hb.block b h) o n
theorem canW_below {B : Nat} {w w' : World} (hb : Below B w w') {b : Nat} (h : b < B) (o n : Nat) : canW w' b o n = canW w b o n := canW_congr (hb.block b h) o n
theorem rd_drew (w : World) (b o n : Nat) : rd w.drew b o n = rd w b o n := rfl
theorem rd_drewN (w : World) (k b o n : Nat) : rd (w.drewN k) b o n = rd w b o n := rfl
theorem canW_drew (w : World) (b o n : Nat) : canW w.drew b o n = canW w b o n := rfl
theorem canW_drewN (w : World) (k b o n : Nat) : canW (w.drewN k) b o n = canW w b o n := rfl
theorem rd_alloc (w : World) (X : Obj) (b o n : Nat) (h : b < w.heap.size) : rd (w.alloc X) b o n = rd w b o n := rd_congr (Below.heap_alloc w X b h) o n
theorem canW_alloc (w : World) (X : Obj) (b o n : Nat) (h : b < w.heap.size) : canW (w.alloc X) b o n = canW w b o n := canW_congr (Below.heap_alloc w X b h) o n
theorem rd_new (w : World) (c : Array Value) (e : TypeId) (fr : Nat × Nat) (b o n : Nat) (h : b = w.heap.size) (hn : o + n ≤ c.size) : rd (w.alloc (.cells c e fr)) b o n = some (c.extract o (o + n)) := by
  subst h
  unfold rd
  rw [heap_alloc_new]
  simp only
  rw [if_pos hn]
theorem rd_new_whole (w : World) (c : Array Value) (e : TypeId) (fr : Nat × Nat) (b n : Nat) (h : b = w.heap.size) (hn : n = c.size) : rd (w.alloc (.cells c e fr)) b 0 n = some c := by
  rw [rd_new w c e fr b 0 n h (by omega)]
  simp [hn]
theorem canW_new (w : World) (c : Array Value) (e : TypeId) (b o n : Nat) (h : b = w.heap.size) (hn : o + n ≤ c.size) : canW (w.alloc (.cells c e)) b o n = true := by
  subst h
  unfold canW
  rw [heap_alloc_new]
  simp [hn]
theorem rd_setCell (w : World) (p : Addr) (v : Value) (b o n : Nat) (h : b ≠ p.block) : rd (w.setCell p v) b o n = rd w b o n := rd_congr (Below.heap_setCell w p v b h) o n
theorem canW_setCell (w : World) (p : Addr) (v : Value) (b o n : Nat) (h : b ≠ p.block) : canW (w.setCell p v) b o n = canW w b o n := canW_congr (Below.heap_setCell w p v b h) o n

theorem heap_wr_other (b : Nat) : ∀ (vs : List Value) (o : Nat) (w : World) (k : Nat), k ≠ b → (w.setCells b o vs).heap[k]? = w.heap[k]?
  | [], _, _, _, _ => rfl
  | v :: vs, o, w, k, h => by
    simp only [World.setCells]
    rw [heap_wr_other b vs (o + 1) _ k h]
    exact Below.heap_setCell w _ v k h
theorem rd_wr_other (w : World) (b' o' : Nat) (cs : Array Value) (b o n : Nat) (h : b ≠ b') : rd (wr w b' o' cs) b o n = rd w b o n := rd_congr (heap_wr_other b' _ _ _ _ h) o n
theorem canW_wr_other (w : World) (b' o' : Nat) (cs : Array Value) (b o n : Nat) (h : b ≠ b') : canW (wr w b' o' cs) b o n = canW w b o n := canW_congr (heap_wr_other b' _ _ _ _ h) o n
theorem size_wr (w : World) (b o : Nat) (cs : Array Value) : (wr w b o cs).heap.size = w.heap.size := by
  unfold wr
  generalize cs.toList = vs
  induction vs generalizing w o with
  | nil => rfl
  | cons v vs ih => simp only [World.setCells]; rw [ih]; simp [World.setCell]
/-- what a block is behind a store of a range -/
theorem heap_setCells_same (b : Nat) : ∀ (vs : List Value) (o : Nat) (w : World) (c : Array Value) (e : TypeId) (fr : Nat × Nat), w.heap[b]? = some (.cells c e fr) → o + vs.length ≤ c.size →
    (w.setCells b o vs).heap[b]? = some (.cells (c.toList.take o ++ vs ++ c.toList.drop (o + vs.length)).toArray e fr)
  | [], o, w, c, e, fr, h, _ => by
    simp only [World.setCells, List.append_nil, List.length_nil, Nat.add_zero, List.take_append_drop, Array.toArray_toList]; exact h
  | v :: vs, o, w, c, e, fr, h, hl => by
    simp only [World.setCells]
    have h1 : (w.setCell ⟨b, o, none⟩ v).heap[b]? = some (.cells (c.setIfInBounds o v) e fr) := by
      simp [World.setCell, Array.getElem?_modify, h]
    rw [heap_setCells_same b vs (o + 1) _ _ e fr h1 (by simp at hl ⊢; omega)]
    congr 3
    have := list_seg_step c.toList o v vs (by simpa using hl)
    simp only [Array.toList_setIfInBounds]
    rw [this]
    simp
theorem rd_wr_same (w : World) (b o n : Nat) (cs : Array Value) (hn : n = cs.size) (h : canW w b o n = true) : rd (wr w b o cs) b o n = some cs := by
  subst hn
  unfold canW at h
  cases hb : w.heap[b]? with
  | none => simp [hb] at h
  | some x =>
    cases x <;> simp [hb] at h
    rename_i c e fr
    unfold rd wr
    rw [heap_setCells_same b cs.toList o w c e fr hb (by simpa using h.1)]
    simp only
    rw [if_pos (by simp; omega)]
    congr 1
    apply Array.ext_getElem?
    intro j
    rw [Array.getElem?_extract]
    by_cases hj : j < cs.size
    · rw [if_pos (by simp; omega)]
      simp only [List.getElem?_toArray]
      rw [List.append_assoc, List.getElem?_append_right (by simp; omega)]
      rw [List.getElem?_append_left (by simp; omega)]
      simp
      congr 1
      omega
    · rw [if_neg (by simp; omega), Array.getElem?_eq_none (by omega)]
theorem canW_wr (w : World) (b' o' : Nat) (cs : Array Value) (b o n : Nat) (h : canW w b' o' cs.size = true) : canW (wr w b' o' cs) b o n = canW w b o n := by
  by_cases hbb : b = b'
  · subst hbb
    unfold canW at h
    cases hb : w.heap[b]? with
    | none => simp [hb] at h
    | some x =>
      cases x <;> simp [hb] at h
      rename_i c e fr
      unfold canW wr
      rw [heap_setCells_same b cs.toList o' w c e fr hb (by simpa using h.1), hb]
      simp
      have : min o' c.size + (cs.size + (c.size - (o' + cs.size))) = c.size := by omega
      rw [this]
  · exact canW_wr_other w b' o' cs b o n hbb
theorem below_wr {B : Nat} {w0 w : World} (hb : Below B w0 w) {b : Nat} (h : B ≤ b) (o : Nat) (cs : Array Value) : Below B w0 (wr w b o cs) := by
  unfold wr
  generalize cs.toList = vs
  induction vs generalizing w o with
  | nil => exact hb
  | cons v vs ih => simp only [World.setCells]; exact ih (hb.setCell (p := ⟨b, o, none⟩) h v) _
theorem wr_new (w : World) (c : Array Value) (e : TypeId) (b : Nat) (cs : Array Value) (h : b = w.heap.size) (hn : cs.size = c.size) : wr (w.alloc (.cells c e)) b 0 cs = w.alloc (.cells cs e) := by
  subst h
  have hs := heap_setCells_same w.heap.size cs.toList 0 (w.alloc (.cells c e)) c e (0, 0) (heap_alloc_new w _) (by simp; omega)
  have hd : List.drop (0 + cs.toList.length) c.toList = [] := by apply List.drop_eq_nil_of_le; simp; omega
  rw [hd] at hs
  simp only [List.take_zero, List.nil_append, List.append_nil, Array.toArray_toList] at hs
  have key : ∀ (vs : List Value) (o : Nat) (u : World), ((u.setCells w.heap.size o vs).os = u.os ∧ (u.setCells w.heap.size o vs).tape = u.tape ∧ (u.setCells w.heap.size o vs).drawn = u.drawn ∧ (u.setCells w.heap.size o vs).output = u.output) := by
    intro vs
    induction vs with
    | nil => intro o u; exact ⟨rfl, rfl, rfl, rfl⟩
    | cons v vs ih => intro o u; simp only [World.setCells]; exact ih _ _
  obtain ⟨k1, k2, k3, k4⟩ := key cs.toList 0 (w.alloc (.cells c e))
  have hheap : ((w.alloc (.cells c e)).setCells w.heap.size 0 cs.toList).heap = (w.alloc (.cells cs e)).heap := by
    apply Array.ext_getElem?
    intro i
    by_cases hi : i = w.heap.size
    · subst hi; rw [hs, heap_alloc_new]
    · rw [heap_wr_other _ _ _ _ _ hi]
      by_cases hl : i < w.heap.size
      · rw [Below.heap_alloc w _ i hl, Below.heap_alloc w _ i hl]
      · have h1 : (w.alloc (.cells c e)).heap.size = w.heap.size + 1 := by simp
        have h2 : (w.alloc (.cells cs e)).heap.size = w.heap.size + 1 := by simp
        rw [Array.getElem?_eq_none (by omega), Array.getElem?_eq_none (by omega)]
  unfold wr
  cases hx : (w.alloc (.cells c e)).setCells w.heap.size 0 cs.toList with
  | mk heap tape drawn os output =>
    rw [hx] at k1 k2 k3 k4 hheap
    simp only at k1 k2 k3 k4 hheap
    subst k1 k2 k3 k4 hheap
    rfl

theorem setCells_alloc (b : Nat) (X : Obj) : ∀ (vs : List Value) (o : Nat) (w : World), b < w.heap.size → (w.alloc X).setCells b o vs = (w.setCells b o vs).alloc X
  | [], _, _, _ => rfl
  | v :: vs, o, w, h => by
    simp only [World.setCells]
    have hh : ((w.alloc X).setCell ⟨b, o, none⟩ v).heap = ((w.setCell ⟨b, o, none⟩ v).alloc X).heap := by
      apply Array.ext_getElem?
      intro i
      by_cases hi : i = b
      · subst hi
        rw [Below.heap_alloc _ X i (by simpa [World.setCell] using h)]
        simp [World.setCell, Array.getElem?_modify, Below.heap_alloc w X i h]
      · rw [Below.heap_setCell _ _ _ _ hi]
        have hz : (w.setCell ⟨b, o, none⟩ v).heap.size = w.heap.size := by simp [World.setCell]
        by_cases hl : i < w.heap.size
        · rw [Below.heap_alloc _ X i hl, Below.heap_alloc _ X i (by omega), Below.heap_setCell _ _ _ _ hi]
        · by_cases he : i = w.heap.size
          · subst he; rw [heap_alloc_new, ← hz, heap_alloc_new]
          · rw [Array.getElem?_eq_none (by simp; omega), Array.getElem?_eq_none (by simp [hz]; omega)]
    have h1 : (w.alloc X).setCell ⟨b, o, none⟩ v = (w.setCell ⟨b, o, none⟩ v).alloc X := congrArg (fun hp => ({ (w.alloc X) with heap := hp } : World)) hh
    rw [h1]
    exact setCells_alloc b X vs (o + 1) _ (by simpa [World.setCell] using h)
theorem wr_alloc (w : World) (X : Obj) (b o : Nat) (cs : Array Value) (h : b < w.heap.size) : wr (w.alloc X) b o cs = (wr w b o cs).alloc X := setCells_alloc b X cs.toList o w h

/-! ### slices: 'sz' cells an element -/
def Sl (w : World) (L B sz : Nat) (A : Option Addr) (xs : List (Array Value)) : Prop :=
  xs ≠ [] → ∃ b o, A = some ⟨b, o, none⟩ ∧ L ≤ b ∧ b < B ∧ ∀ i (h : i < xs.length), rd w b (o + i * sz) sz = some xs[i]
section
variable {w w' : World} {L L' B B' sz : Nat} {A : Option Addr} {xs : List (Array Value)}
theorem Sl.nil : Sl w L B sz A [] := fun h => absurd rfl h
theorem Sl.pos (h : Sl w L B sz A xs) (hn : 0 < xs.length) : ∃ b o, A = some ⟨b, o, none⟩ ∧ L ≤ b ∧ b < B ∧ ∀ i (h : i < xs.length), rd w b (o + i * sz) sz = some xs[i] :=
  h (by intro e; subst e; simp at hn)
theorem Sl.below (h : Sl w L B sz A xs) (hb : Below B w w') : Sl w' L B sz A xs := fun hn => by
  obtain ⟨b, o, e, hL, hlt, hr⟩ := h hn
  exact ⟨b, o, e, hL, hlt, fun i hi => (rd_below hb hlt _ _).trans (hr i hi)⟩
theorem Sl.more (h : Sl w L B sz A xs) (hB : B ≤ B') : Sl w L B' sz A xs := fun hn => by
  obtain ⟨b, o, e, hL, hlt, hr⟩ := h hn
  exact ⟨b, o, e, hL, by omega, hr⟩
theorem Sl.less (h : Sl w L B sz A xs) (hL' : L' ≤ L) : Sl w L' B sz A xs := fun hn => by
  obtain ⟨b, o, e, hL, hlt, hr⟩ := h hn
  exact ⟨b, o, e, by omega, hlt, hr⟩
theorem Sl.setCell (h : Sl w L B sz A xs) {p : Addr} (hp : p.block < L ∨ B ≤ p.block) (v : Value) : Sl (w.setCell p v) L B sz A xs := fun hn => by
  obtain ⟨b, o, e, hL, hlt, hr⟩ := h hn
  exact ⟨b, o, e, hL, hlt, fun i hi => (rd_setCell w p v b _ _ (by omega)).trans (hr i hi)⟩
theorem Sl.wr_ (h : Sl w L B sz A xs) {g : Nat} (hp : g < L ∨ B ≤ g) (o : Nat) (cs : Array Value) : Sl (wr w g o cs) L B sz A xs := fun hn => by
  obtain ⟨b, o', e, hL, hlt, hr⟩ := h hn
  exact ⟨b, o', e, hL, hlt, fun i hi => (rd_wr_other w g o cs b _ _ (by omega)).trans (hr i hi)⟩
theorem Sl.drew (h : Sl w L B sz A xs) : Sl w.drew L B sz A xs := h
theorem Sl.drewN (h : Sl w L B sz A xs) (k : Nat) : Sl (w.drewN k) L B sz A xs := h
theorem Sl.alloc (h : Sl w L B sz A xs) (hB : B ≤ w.heap.size) (o : Obj) : Sl (w.alloc o) L B sz A xs := h.below ((Below.refl B w).alloc hB o)
theorem Sl.take (h : Sl w L B sz A xs) (k : Nat) : Sl w L B sz A (xs.take k) := fun hn => by
  obtain ⟨b, o, e, hL, hlt, hr⟩ := h (by rintro rfl; simp at hn)
  refine ⟨b, o, e, hL, hlt, fun i hi => ?_⟩
  rw [hr i (by simp at hi; omega)]
  simp
theorem Sl.cut (h : Sl w L B sz A xs) (k : Nat) : Sl w L B sz (A.map (·.add (k * sz))) (xs.drop k) := fun hn => by
  obtain ⟨b, o, rfl, hL, hlt, hr⟩ := h (by rintro rfl; simp at hn)
  refine ⟨b, o + k * sz, by simp [Addr.add_mid], hL, hlt, fun i hi => ?_⟩
  have := hr (k + i) (by simp at hi; omega)
  rw [Nat.add_mul, ← Nat.add_assoc] at this
  rw [this]
  simp
theorem Sl.at_ {k : Nat} (h : Sl w L B sz A xs) (hk : k < xs.length) : ∃ b o, A = some ⟨b, o, none⟩ ∧ L ≤ b ∧ b < B ∧ rd w b (o + k * sz) sz = some xs[k] := by
  obtain ⟨b, o, e, hL, hlt, hr⟩ := h.pos (by omega)
  exact ⟨b, o, e, hL, hlt, hr k hk⟩
end

/-! ### whole variables: 'loadVar', 'storeVar' kept whole by the walk -/
def ldV (t : TypeId) (a : Addr) : Sem Value := loadVar t a
def stV (t : TypeId) (a : Addr) (v : Value) : Sem Unit := storeVar t a v
def ldR (P : Program) (t : TypeId) (a : Addr) (r : Option (Array Value)) (w : World) : Result Value :=
  match r with
  | some cs => .ok (.agg cs) w
  | none => (loadVar t a).run P w
theorem ldR_some (P : Program) (t : TypeId) (a : Addr) (cs : Array Value) (w : World) : ldR P t a (some cs) w = .ok (.agg cs) w := rfl

theorem run_ldV (P : Program) (t : TypeId) (n : Nat) (d : TypeDesc) (hu : P.underlying t = some d) (hd : d.isRow = true) (hi : (P.info? t).map (·.size) = some n) (w : World) (b o : Nat) :
    (ldV t ⟨b, o, none⟩).run P w = ldR P t ⟨b, o, none⟩ (rd w b o n) w := by
  cases h : rd w b o n with
  | none => rfl
  | some cs =>
    have hsz := rd_size h
    rw [ldR_some]
    unfold ldV
    have := run_loadVar_mid (P := P) w b o t cs.toList d (fun j v hj => by
      have hj' : j < n := by
        have := (List.getElem?_eq_some_iff.1 hj).1
        simp at this; omega
      rw [rd_cell h j hj']
      simpa using hj) hu hd (by rw [hi]; simp [hsz])
    simpa using this

def stR (P : Program) (t : TypeId) (a : Addr) (ok : Bool) (v : Value) (w w' : World) : Result Unit :=
  if ok then .ok () w' else (storeVar t a v).run P w
theorem stR_true (P : Program) (t : TypeId) (a : Addr) (v : Value) (w w' : World) : stR P t a true v w w' = .ok () w' := rfl
def okW (cs : Array Value) (n : Nat) : Bool := decide (cs.size = n) && cs.all (·.oneCell')
theorem run_stV (P : Program) (t : TypeId) (n : Nat) (hi : (P.info? t).map (·.size) = some n) (w : World) (b o : Nat) (cs : Array Value) :
    (stV t ⟨b, o, none⟩ (.agg cs)).run P w = stR P t ⟨b, o, none⟩ (canW w b o n && okW cs n) (.agg cs) w (wr w b o cs) := by
  cases h : (canW w b o n && okW cs n) with
  | false => rfl
  | true =>
    rw [stR_true]
    simp only [okW, Bool.and_eq_true, decide_eq_true_eq] at h
    obtain ⟨h1, h2, h3⟩ := h
    unfold stV
    refine run_storeVar_mid (P := P) w b o t cs ?_ (by rw [hi, h2]) h3
    intro j hj
    unfold canW at h1
    cases hb : w.heap[b]? with
    | none => simp [hb] at h1
    | some x =>
      cases x <;> simp [hb] at h1
      rename_i c e fr
      obtain ⟨hle, rfl⟩ := h1
      refine ⟨?_, ?_⟩
      · unfold World.cell?
        simp [hb]
        omega
      · simp [World.frozen?, hb]

theorem run_loadVar_rd {P : Program} {t : TypeId} {n : Nat} {d : TypeDesc} (hu : P.underlying t = some d) (hd : d.isRow = true) (hi : (P.info? t).map (·.size) = some n) {w : World} {b o : Nat} {cs : Array Value} (h : rd w b o n = some cs) :
    (loadVar t ⟨b, o, none⟩).run P w = .ok (.agg cs) w := by
  have := run_ldV P t n d hu hd hi w b o
  rw [h] at this
  exact this
theorem results_c {P : Program} {fn : Func} {p : Tmp} {t : TypeId} (hf : fn.results = #[.cell p t]) {n : Nat} {d : TypeDesc} (hu : P.underlying t = some d) (hd : d.isRow = true) (hi : (P.info? t).map (·.size) = some n)
    {w : World} {tmps : Array Value} {b o : Nat} {cs : Array Value} (hp : tmps.getD p undef = .pointer (some ⟨b, o, none⟩)) (h : rd w b o n = some cs) : (results fn tmps).run P w = .ok (.agg cs) w := by
  have hp' : tmps[p]?.getD undef = .pointer (some ⟨b, o, none⟩) := by simpa using hp
  simp [results, hf, hp', asAddr, run_loadVar_rd hu hd hi h]
theorem results_ct {P : Program} {fn : Func} {p q : Tmp} {t : TypeId} (hf : fn.results = #[.cell p t, .tmp q]) {n : Nat} {d : TypeDesc} (hu : P.underlying t = some d) (hd : d.isRow = true) (hi : (P.info? t).map (·.size) = some n)
    {w : World} {tmps : Array Value} {b o : Nat} {cs : Array Value} (hp : tmps.getD p undef = .pointer (some ⟨b, o, none⟩)) (h : rd w b o n = some cs) : (results fn tmps).run P w = .ok (.tuple #[.agg cs, tmps.getD q undef]) w := by
  have hp' : tmps[p]?.getD undef = .pointer (some ⟨b, o, none⟩) := by simpa using hp
  simp [results, hf, hp', asAddr, run_loadVar_rd hu hd hi h]

/-! ### the cells of a row of elements -/
def flat (xs : List (Array Value)) : List Value := xs.flatMap Array.toList
def Sized (sz : Nat) (xs : List (Array Value)) : Prop := ∀ x ∈ xs, x.size = sz
def Ones (xs : List (Array Value)) : Prop := ∀ x ∈ xs, ∀ v ∈ x.toList, v.oneCell' = true
theorem flat_nil : flat [] = [] := rfl
theorem flat_append (xs ys : List (Array Value)) : flat (xs ++ ys) = flat xs ++ flat ys := by simp [flat]
theorem flat_len {sz : Nat} : ∀ {xs : List (Array Value)}, Sized sz xs → (flat xs).length = xs.length * sz
  | [], _ => by simp [flat]
  | x :: xs, h => by
    have ih := flat_len (xs := xs) (fun y hy => h y (by simp [hy]))
    have hx := h x (by simp)
    simp only [flat, List.flatMap_cons, List.length_append, Array.length_toList, List.length_cons] at ih ⊢
    rw [ih, hx, Nat.add_mul]
    omega
theorem flat_at {sz : Nat} : ∀ {xs : List (Array Value)}, Sized sz xs → ∀ i (hi : i < xs.length) j, j < sz → (flat xs)[i * sz + j]? = xs[i][j]?
  | [], _, i, hi, _, _ => by simp at hi
  | x :: xs, h, i, hi, j, hj => by
    have hx := h x (by simp)
    simp only [flat, List.flatMap_cons]
    rcases i with _ | i
    · rw [List.getElem?_append_left (by simp; omega)]
      simp
    · have ih := flat_at (xs := xs) (fun y hy => h y (by simp [hy])) i (by simpa using hi) j hj
      have e : (i + 1) * sz + j = sz + (i * sz + j) := by rw [Nat.add_mul]; omega
      rw [List.getElem?_append_right (by simp; rw [hx, e]; omega)]
      simp only [Array.length_toList, hx, e, Nat.add_sub_cancel_left]
      simpa [flat] using ih
theorem Sized.append {sz : Nat} {xs ys : List (Array Value)} (h : Sized sz xs) (k : Sized sz ys) : Sized sz (xs ++ ys) := by
  intro x hx
  rcases List.mem_append.1 hx with h1 | h1
  · exact h x h1
  · exact k x h1
theorem Sized.take {sz : Nat} {xs : List (Array Value)} (h : Sized sz xs) (n : Nat) : Sized sz (xs.take n) := fun x hx => h x (List.mem_of_mem_take hx)
theorem Sized.drop {sz : Nat} {xs : List (Array Value)} (h : Sized sz xs) (n : Nat) : Sized sz (xs.drop n) := fun x hx => h x (List.mem_of_mem_drop hx)
theorem Ones.take {xs : List (Array Value)} (h : Ones xs) (n : Nat) : Ones (xs.take n) := fun x hx => h x (List.mem_of_mem_take hx)
theorem Ones.drop {xs : List (Array Value)} (h : Ones xs) (n : Nat) : Ones (xs.drop n) := fun x hx => h x (List.mem_of_mem_drop hx)
theorem Ones.append {xs ys : List (Array Value)} (h : Ones xs) (k : Ones ys) : Ones (xs ++ ys) := by
  intro x hx
  rcases List.mem_append.1 hx with h1 | h1
  · exact h x h1
  · exact k x h1
theorem Ones.flat_all {xs : List (Array Value)} (h : Ones xs) : ∀ v ∈ flat xs, v.oneCell' = true := by
  intro v hv
  simp only [flat, List.mem_flatMap] at hv
  obtain ⟨x, hx, hv⟩ := hv
  exact h x hx v hv
theorem flat_mod {sz : Nat} {xs : List (Array Value)} (h : Sized sz xs) {j : Nat} (hj : j < xs.length * sz) : ∃ i k, i < xs.length ∧ k < sz ∧ j = i * sz + k := by
  have hs : 0 < sz := by
    rcases Nat.eq_zero_or_pos sz with h0 | h0
    · subst h0; simp at hj
    · exact h0
  refine ⟨j / sz, j % sz, ?_, Nat.mod_lt _ hs, ?_⟩
  · exact Nat.div_lt_of_lt_mul (by rw [Nat.mul_comm]; exact hj)
  · have := Nat.div_add_mod j sz
    rw [Nat.mul_comm] at this
    omega
/-- a slice's cells, flat -/
theorem Sl.flat_cells {w : World} {L B sz : Nat} {A : Option Addr} {xs : List (Array Value)} (h : Sl w L B sz A xs) (hs : Sized sz xs) (hne : xs ≠ []) :
    ∃ b o, A = some ⟨b, o, none⟩ ∧ L ≤ b ∧ b < B ∧ ∀ j v, (flat xs)[j]? = some v → w.cell? ⟨b, o + j, none⟩ = some v := by
  obtain ⟨b, o, e, hL, hlt, hr⟩ := h hne
  refine ⟨b, o, e, hL, hlt, fun j v hv => ?_⟩
  have hl := (List.getElem?_eq_some_iff.1 hv).1
  rw [flat_len hs] at hl
  obtain ⟨i, k, hi, hk, rfl⟩ := flat_mod hs hl
  have h1 := rd_cell (hr i hi) k hk
  rw [flat_at hs i hi k hk] at hv
  rw [← Nat.add_assoc, h1, hv]
/-- a block that holds the cells of a row of elements is such a slice -/
theorem Sl.of_block {w : World} {L B sz g o : Nat} {xs : List (Array Value)} {cur : Array Value} {t : TypeId} {fr : Nat × Nat} (hg : w.heap[g]? = some (.cells cur t fr)) (hL : L ≤ g) (hB : g < B) (hs : Sized sz xs)
    (h : ∀ j v, (flat xs)[j]? = some v → cur[o + j]? = some v) (hsz : 0 < sz) : Sl w L B sz (some ⟨g, o, none⟩) xs := by
  intro _
  refine ⟨g, o, rfl, hL, hB, fun i hi => ?_⟩
  have hx : (xs[i]).size = sz := hs _ (List.getElem_mem hi)
  rw [← hx]
  refine rd_of_cells (by omega) (fun j hj => ?_)
  unfold World.cell?
  simp only [hg, Option.isSome_none, Bool.false_eq_true, if_false]
  rw [hx] at hj
  have hfl := flat_at hs i hi j hj
  have hv : xs[i][j]? = some (xs[i][j]'(by omega)) := Array.getElem?_eq_getElem (by omega)
  rw [hv] at hfl ⊢
  have e : o + i * (xs[i]).size + j = o + (i * sz + j) := by rw [hx, Nat.add_assoc]
  rw [e]
  exact h _ _ hfl

/-! ### copy -/
theorem run_copy_sl {P : Program} (w : World) (dT sT ty elem : TypeId) (sz : Nat) (hu : P.underlying dT = some (.slice elem)) (hsz : (P.info? elem).map (·.size) = some sz)
    (g o dLen dCap : Nat) (A : Option Addr) (sLen sCap : Nat) (xs : List (Array Value)) (L B : Nat) (hx : Sl w L B sz A xs) (hs : Sized sz xs) (h1 : Ones xs) (hn : xs.length = Nat.min sLen dLen)
    (hc : canW w g o (xs.length * sz) = true) :
    (Builtin.copy_ #[dT, sT] ty #[.slice (some ⟨g, o, none⟩) dLen dCap, .slice A sLen sCap]).run P w = .ok (goInt xs.length) (wr w g o (flat xs).toArray) := by
  have hst : ∀ vs : List Value, vs = flat xs → (storeCells ⟨g, o, none⟩ vs).run P w = .ok () (wr w g o (flat xs).toArray) := by
    rintro vs rfl
    unfold canW at hc
    cases hb : w.heap[g]? with
    | none => simp [hb] at hc
    | some x =>
      cases x <;> simp [hb] at hc
      rename_i c e fr
      obtain ⟨hle, rfl⟩ := hc
      have := run_storeCells_cells (P := P) g o (flat xs) 0 w
        (fun j hj => by rw [flat_len hs] at hj; unfold World.cell?; simp [hb]; omega) (fun j _ => by simp [World.frozen?, hb]) h1.flat_all
      simpa [wr] using this
  cases hq : P.info? elem with
  | none => simp [hq] at hsz
  | some i =>
    have hi : i.size = sz := by simpa [hq] using hsz
    by_cases hne : xs = []
    · subst hne
      have h0 : Nat.min sLen dLen = 0 := by simpa using hn.symm
      have hst0 := hst [] rfl
      cases A with
      | none => simp [Builtin.copy_, run_underlying hu, Builtin.lenOf, Builtin.firstCells, sizeOf, typeInfo, hq, h0, hst0]
      | some ad => simp [Builtin.copy_, run_underlying hu, Builtin.lenOf, Builtin.firstCells, sizeOf, typeInfo, hq, h0, hst0, loadCells, loadCellsFrom]
    · obtain ⟨b, o', rfl, _, _, hcell⟩ := hx.flat_cells hs hne
      have hl := run_loadCells_list (P := P) (w := w) ⟨b, o', none⟩ (flat xs) (fun j v hv => by rw [Addr.add_mid]; exact hcell j v hv)
      rw [flat_len hs] at hl
      have hst' := hst (flat xs) rfl
      simp [Builtin.copy_, run_underlying hu, Builtin.lenOf, Builtin.firstCells, sizeOf, typeInfo, hq, hi, hl, hst', ← hn]

theorem wpList_copy_sl {P : Program} {w : World} {ops : Array Oper} {rest : List Oper} {o : Oper} {a : Act} {Q : Exit → Act → World → Prop} (hgd : o.guard = none) (d s : Operand) (dT sT : TypeId)
    (ho : o.op = .call { callee := .builtin .copy, args := #[d, s], argTypes := #[dT, sT] }) (elem : TypeId) (sz : Nat) (hu : P.underlying dT = some (.slice elem)) (hsz : (P.info? elem).map (·.size) = some sz)
    (g off dLen dCap : Nat) (A : Option Addr) (sLen sCap : Nat) (hd : a.eval d = .slice (some ⟨g, off, none⟩) dLen dCap) (hs : a.eval s = .slice A sLen sCap)
    (xs : List (Array Value)) (L B : Nat) (hx : Sl w L B sz A xs) (hsd : Sized sz xs) (h1 : Ones xs) (hn : xs.length = Nat.min sLen dLen) (hc : canW w g off (xs.length * sz) = true)
    (h : wpList P ops Q rest (a.put o.dst (goInt xs.length)) (wr w g off (flat xs).toArray)) : wpList P ops Q (o :: rest) a w := by
  refine wpList_plain hgd fun K hK => ?_
  have hrun := run_copy_sl (P := P) w dT sT o.type elem sz hu hsz g off dLen dCap A sLen sCap xs L B hx hsd h1 hn hc
  unfold Oper.wp execOp
  simp only [ho, resolve, invoke, builtin, Sem.run_bind, Sem.run_pure, Result.andThen_ok, List.map_toArray, List.map_cons, List.map_nil, hd, hs, hrun]
  exact hK _ _ h

/-- what was written into a block as a row of elements reads as such -/
theorem Sl.of_wr {w : World} {g o sz L B : Nat} {xs : List (Array Value)} (hs : Sized sz xs) (hsz : 0 < sz) (hc : canW w g o (xs.length * sz) = true) (hL : L ≤ g) (hB : g < B) : Sl (wr w g o (flat xs).toArray) L B sz (some ⟨g, o, none⟩) xs := by
  intro _
  refine ⟨g, o, rfl, hL, hB, fun i hi => ?_⟩
  have hr := rd_wr_same w g o (xs.length * sz) (flat xs).toArray (by simp [flat_len hs]) hc
  have hx : (xs[i]).size = sz := hs _ (List.getElem_mem hi)
  have hm : i * sz + sz ≤ xs.length * sz := by
    have : (i + 1) * sz ≤ xs.length * sz := Nat.mul_le_mul_right sz hi
    rw [Nat.add_mul] at this; omega
  rw [rd_part hr (i * sz) sz hm]
  congr 1
  apply Array.ext_getElem?
  intro j
  rw [Array.getElem?_extract]
  by_cases hj : j < sz
  · have := flat_at hs i hi j hj
    rw [if_pos (by simp [flat_len hs]; omega)]
    simpa using this
  · rw [if_neg (by simp [flat_len hs]; omega), Array.getElem?_eq_none (by omega)]
theorem below_of_wr {B : Nat} {w w' : World} (hb : Below B w w') {g o : Nat} (h : B ≤ g) (cs : Array Value) : Below B w (wr w' g o cs) := below_wr hb h o cs

theorem canW_part {w : World} {b o n : Nat} (h : canW w b o n = true) (k m : Nat) (hk : k + m ≤ n) : canW w b (o + k) m = true := by
  unfold canW at h ⊢
  cases hb : w.heap[b]? with
  | none => simp [hb] at h
  | some x =>
    cases x <;> simp [hb] at h
    simp [h.2]; omega
theorem run_storeCells_w {P : Program} {w : World} {g o : Nat} {vs : List Value} (hc : canW w g o vs.length = true) (h1 : ∀ v ∈ vs, v.oneCell' = true) : (storeCells ⟨g, o, none⟩ vs).run P w = .ok () (wr w g o vs.toArray) := by
  unfold canW at hc
  cases hb : w.heap[g]? with
  | none => simp [hb] at hc
  | some x =>
    cases x <;> simp [hb] at hc
    rename_i c e fr
    obtain ⟨hle, rfl⟩ := hc
    have := run_storeCells_cells (P := P) g o vs 0 w (fun j hj => by unfold World.cell?; simp [hb]; omega) (fun j _ => by simp [World.frozen?, hb]) h1
    simpa [wr] using this
/-- append where there is room -/
theorem run_append_sl {P : Program} (w : World) (t ty elem : TypeId) (sz : Nat) (hu : P.underlying t = some (.slice elem)) (hsz : (P.info? elem).map (·.size) = some sz)
    (g o n cap : Nat) (A : Option Addr) (m c : Nat) (xs : List (Array Value)) (L B : Nat) (hx : Sl w L B sz A xs) (hs : Sized sz xs) (h1 : Ones xs) (hm : xs.length = m) (hroom : n + m ≤ cap)
    (hc : canW w g (o + n * sz) (xs.length * sz) = true) :
    (Builtin.append_ #[t, t] ty #[.slice (some ⟨g, o, none⟩) n cap, .slice A m c]).run P w = .ok (.slice (some ⟨g, o, none⟩) (n + m) cap) (wr w g (o + n * sz) (flat xs).toArray) := by
  have hst := run_storeCells_w (P := P) (w := w) (g := g) (o := o + n * sz) (vs := flat xs) (by rw [flat_len hs]; exact hc) h1.flat_all
  cases hq : P.info? elem with
  | none => simp [hq] at hsz
  | some i =>
    have hi : i.size = sz := by simpa [hq] using hsz
    have ha : ((⟨g, o, none⟩ : Addr).add (n * sz)) = ⟨g, o + n * sz, none⟩ := Addr.add_mid g o (n * sz)
    subst hm
    by_cases hne : xs = []
    · subst hne
      simp only [flat_nil] at hst
      cases A with
      | none =>
        simp [Builtin.append_, run_underlying hu, sizeOf, typeInfo, hq, hi, Builtin.lenOf, Builtin.firstCells, ha, hst] at hroom ⊢
        simp [hroom, ha, hst, flat_nil]
      | some ad =>
        simp [Builtin.append_, run_underlying hu, sizeOf, typeInfo, hq, hi, Builtin.lenOf, Builtin.firstCells, loadCells, loadCellsFrom, ha, hst] at hroom ⊢
        simp [hroom, ha, hst, flat_nil]
    · obtain ⟨b, o', rfl, _, _, hcell⟩ := hx.flat_cells hs hne
      have hl := run_loadCells_list (P := P) (w := w) ⟨b, o', none⟩ (flat xs) (fun j v hv => by rw [Addr.add_mid]; exact hcell j v hv)
      rw [flat_len hs] at hl
      simp [Builtin.append_, run_underlying hu, sizeOf, typeInfo, hq, hi, Builtin.lenOf, Builtin.firstCells, hroom, hl, ha, hst]

/-! ### a slice literal of one aggregate -/
theorem foldl_fill : ∀ (l : List Value) (k : Nat) (z : Array Value), (((l.zipIdx k).foldl (fun cs (x : Value × Nat) => cs.setIfInBounds (0 + x.2) x.1) z).size = z.size) ∧
    ∀ i, k + l.length ≤ z.size → ((l.zipIdx k).foldl (fun cs (x : Value × Nat) => cs.setIfInBounds (0 + x.2) x.1) z)[i]? = if k ≤ i ∧ i < k + l.length then l[i - k]? else z[i]?
  | [], k, z => ⟨rfl, fun i _ => by simp; omega⟩
  | v :: l, k, z => by
    obtain ⟨h1, h2⟩ := foldl_fill l (k + 1) (z.setIfInBounds (0 + k) v)
    simp only [List.zipIdx_cons, List.foldl_cons]
    refine ⟨by rw [h1]; simp, fun i hi => ?_⟩
    simp only [List.length_cons] at hi ⊢
    rw [h2 i (by rw [Array.size_setIfInBounds]; omega)]
    by_cases h : k + 1 ≤ i ∧ i < k + 1 + l.length
    · rw [if_pos h, if_pos (by omega)]
      have : i - k = (i - (k + 1)) + 1 := by omega
      rw [this, List.getElem?_cons_succ]
    · rw [if_neg h]
      by_cases hk : i = k
      · subst hk
        rw [if_pos (by omega), Nat.zero_add, Array.getElem?_setIfInBounds_self_of_lt (by omega)]
        simp
      · rw [if_neg (by omega)]
        simp only [Nat.zero_add, Array.getElem?_setIfInBounds]
        rw [if_neg (by omega)]
theorem fill_one (z cs : Array Value) (sz : Nat) (hz : z.size = 1 * sz) (hc : cs.size = sz) : Instr.fill (fun i => some (i * sz, sz)) z [(0, .agg cs)] = some cs := by
  have hf := foldl_fill cs.toList 0 z
  simp only [Instr.fill, Value.cells, Nat.zero_mul]
  split
  · rename_i h
    simp [hc] at h
    omega
  congr 1
  have e : cs.zipIdx.foldl (fun cs (x : Value × Nat) => cs.setIfInBounds (0 + x.2) x.1) z = (cs.toList.zipIdx 0).foldl (fun cs (x : Value × Nat) => cs.setIfInBounds (0 + x.2) x.1) z := by
    rw [← Array.foldl_toList]; simp
  rw [e]
  apply Array.ext_getElem?
  intro i
  rw [hf.2 i (by rw [Array.length_toList]; omega)]
  by_cases h : i < cs.size
  · rw [if_pos (by rw [Array.length_toList]; omega)]; simp
  · rw [if_neg (by rw [Array.length_toList]; omega), Array.getElem?_eq_none (by omega), Array.getElem?_eq_none (by omega)]
def bsS (t : TypeId) (n : Nat) (ps : Array (Nat × Value)) : Sem Value := Instr.buildSlice t n ps
theorem run_bsS_one {P : Program} (w : World) (t elem : TypeId) (i : TypeInfo) (z : Value) (sz : Nat) (hu : P.underlying t = some (.slice elem)) (hi : P.info? elem = some i) (hsz : i.size = sz) (hz : i.zero = some z) (hzs : z.cells.size = sz) (hpos : 0 < sz) (hle : sz ≤ 1000)
    (cs : Array Value) (hc : cs.size = sz) : (bsS t 1 #[(0, .agg cs)]).run P w = .ok (.slice (some ⟨w.heap.size, 0, none⟩) 1 1) (w.alloc (.cells cs elem)) := by
  have hne : ¬ (1 * sz = 0) := by omega
  have hle' : ¬ (1 * sz > 2 ^ 24) := by simp only [Nat.one_mul]; omega
  have hf := fill_one ((Array.range (1 * sz)).map (z.cells[· % z.cells.size]!)) cs sz (by simp) hc
  simp only [Nat.one_mul] at hf hne hle'
  have hle'' : ¬ (16777216 < sz) := by omega
  simp [bsS, Instr.buildSlice, run_underlying hu, sizeOf, typeInfo, hi, hsz, zeroValue, hz, hf, hne, hle'', newRow]

theorem step_append_of_run {P : Program} {ops : Array Oper} {o : Oper} {a : Act} {w : World} {K : Act → World → Prop} {Q : Exit → Act → World → Prop} {E : Prop} (hw : Region.wanted o (yielded ops a.tmps) = true) (s x : Operand) (t : TypeId)
    (ho : o.op = .call { callee := .builtin .append, args := #[s, x], argTypes := #[t, t] }) (v : Value) (w' : World)
    (hrun : (Builtin.append_ #[t, t] o.type #[a.eval s, a.eval x]).run P w = .ok v w') (h : K (a.put o.dst v) w') :
    if Region.wanted o (yielded ops a.tmps) = true then Oper.wp P o a w K Q else E := by
  rw [if_pos hw]
  unfold Oper.wp execOp
  simp only [ho, resolve, invoke, builtin, Sem.run_bind, Sem.run_pure, Result.andThen_ok, List.map_toArray, List.map_cons, List.map_nil, hrun]
  exact h
/-- a new block of one aggregate, as a slice of one -/
theorem Sl.one {w : World} {b o sz L B : Nat} {cs : Array Value} (h : rd w b o sz = some cs) (hL : L ≤ b) (hB : b < B) : Sl w L B sz (some ⟨b, o, none⟩) [cs] := by
  intro _
  refine ⟨b, o, rfl, hL, hB, fun i hi => ?_⟩
  have : i = 0 := by simp at hi; omega
  subst this
  simpa using h
/-- two rows of elements, one behind the other, in one block -/
theorem rd_join {w : World} {b o n m : Nat} {xs ys : Array Value} (h1 : rd w b o n = some xs) (h2 : rd w b (o + n) m = some ys) : rd w b o (n + m) = some (xs ++ ys) := by
  have z1 := rd_size h1
  have z2 := rd_size h2
  unfold rd at h1 h2 ⊢
  cases hb : w.heap[b]? with
  | none => simp [hb] at h1
  | some x =>
    cases x <;> simp [hb] at h1 h2
    rename_i c e fr
    obtain ⟨g1, rfl⟩ := h1
    obtain ⟨g2, rfl⟩ := h2
    simp only
    rw [if_pos (by omega)]
    congr 1
    apply Array.ext_getElem?
    intro i
    simp only [Array.getElem?_append, Array.getElem?_extract, Array.size_extract]
    by_cases hi : i < n
    · rw [if_pos (by omega), if_pos (by omega), if_pos (by omega)]
    · rw [if_neg (by omega : ¬ i < min (o + n) c.size - o)]
      by_cases hi2 : i < n + m
      · rw [if_pos (by omega), if_pos (by omega)]
        congr 1; omega
      · rw [if_neg (by omega), if_neg (by omega)]
theorem Sl.of_rd {w : World} {g o sz L B : Nat} {xs : List (Array Value)} (hs : Sized sz xs) (h : rd w g o (xs.length * sz) = some (flat xs).toArray) (hL : L ≤ g) (hB : g < B) : Sl w L B sz (some ⟨g, o, none⟩) xs := by
  intro _
  refine ⟨g, o, rfl, hL, hB, fun i hi => ?_⟩
  have hx : (xs[i]).size = sz := hs _ (List.getElem_mem hi)
  have hm : i * sz + sz ≤ xs.length * sz := by
    have : (i + 1) * sz ≤ xs.length * sz := Nat.mul_le_mul_right sz hi
    rw [Nat.add_mul] at this; omega
  rw [rd_part h (i * sz) sz hm]
  congr 1
  apply Array.ext_getElem?
  intro j
  rw [Array.getElem?_extract]
  by_cases hj : j < sz
  · have := flat_at hs i hi j hj
    rw [if_pos (by simp [flat_len hs]; omega)]
    simpa using this
  · rw [if_neg (by simp [flat_len hs]; omega), Array.getElem?_eq_none (by omega)]
/-- a range of a block behind a store elsewhere in it -/
theorem rd_wr_apart (w : World) (b o' : Nat) (cs : Array Value) (o n : Nat) (hc : canW w b o' cs.size = true) (h : o + n ≤ o' ∨ o' + cs.size ≤ o) : rd (wr w b o' cs) b o n = rd w b o n := by
  unfold canW at hc
  cases hb : w.heap[b]? with
  | none => simp [hb] at hc
  | some x =>
    cases x <;> simp [hb] at hc
    rename_i c e fr
    have hh := heap_setCells_same b cs.toList o' w c e fr hb (by simpa using hc.1)
    unfold rd wr
    rw [hh, hb]
    simp only
    have hsz : (List.take o' c.toList ++ cs.toList ++ List.drop (o' + cs.toList.length) c.toList).toArray.size = c.size := by simp; omega
    rw [hsz]
    split
    · congr 1
      apply Array.ext_getElem?
      intro i
      rw [Array.getElem?_extract, Array.getElem?_extract, hsz]
      split
      · rename_i hle hi
        simp only [List.getElem?_toArray, List.append_assoc]
        rcases h with h | h
        · rw [List.getElem?_append_left (by simp; omega)]
          simp [List.getElem?_take]; omega
        · rw [List.getElem?_append_right (by simp; omega), List.getElem?_append_right (by simp; omega)]
          simp only [List.getElem?_drop, List.length_take, Array.length_toList, Array.getElem?_toList]
          congr 1; omega
      · rfl
    · rfl

theorem cell_wr_other (w : World) (b o : Nat) (cs : Array Value) (p : Addr) (h : p.block ≠ b) : (wr w b o cs).cell? p = w.cell? p := World.cell?_of_block (heap_wr_other b _ _ _ _ h)

/-- what a region's loads may lean on: below N all is as it was in W -/
theorem keepS {N : Nat} {W w' : World} (hb : Below N W w') :
    Below N W w' ∧ (∀ b o, b < N → w'.cell? ⟨b, o, none⟩ = W.cell? ⟨b, o, none⟩) ∧ (∀ b o n, b < N → rd w' b o n = rd W b o n) :=
  ⟨hb, fun b o h => hb.cell (p := ⟨b, o, none⟩) h, fun b o n h => rd_below hb h o n⟩
theorem flat_size {sz : Nat} {xs : List (Array Value)} (h : Sized sz xs) : (flat xs).toArray.size = xs.length * sz := by rw [← flat_len h]; simp
theorem frozen_new (w : World) (c : Array Value) (e : TypeId) (b o : Nat) (h : b = w.heap.size) : (w.alloc (.cells c e)).frozen? ⟨b, o, none⟩ = false := by
  subst h
  unfold World.frozen?
  rw [heap_alloc_new]
  simp
theorem rd_two {w : World} {b o : Nat} {v0 v1 : Value} (h0 : w.cell? ⟨b, o, none⟩ = some v0) (h1 : w.cell? ⟨b, o + 1, none⟩ = some v1) : rd w b o 2 = some #[v0, v1] :=
  rd_of_cells (cs := #[v0, v1]) (by simp) (fun j hj => by
    have : j = 0 ∨ j = 1 := by simp at hj; omega
    rcases this with rfl | rfl
    · simpa using h0
    · simpa using h1)
theorem keepC {N : Nat} {W w' : World} {p : Addr} {v : Value} (hb : Below N W w') (hc : w'.cell? p = some v) :
    Below N W w' ∧ (∀ b o, b < N → w'.cell? ⟨b, o, none⟩ = W.cell? ⟨b, o, none⟩) ∧ (∀ b o n, b < N → rd w' b o n = rd W b o n) ∧ w'.cell? p = some v :=
  ⟨hb, fun b o h => hb.cell (p := ⟨b, o, none⟩) h, fun b o n h => rd_below hb h o n, hc⟩

/-! ### '==' of arrays of integers -/
theorem run_part_int {P : Program} {e : TypeId} {k : IntKind} (he : P.underlying e = some (.int k)) {xs : Array Value} {off : Nat} {v : Value} (hx : xs[off]? = some v) (w : World) : (part e xs off).run P w = .ok v w := by
  have : (isAgg e).run P w = .ok false w := by
    unfold isAgg
    rw [Sem.run_bind, run_underlying he w]
    rfl
  simp [part, Sem.run_bind, this, hx]
theorem run_equalIn_ints {P : Program} (d : Nat) (t e : TypeId) (n : Nat) (k k' : IntKind) (ht : P.underlying t = some (.array n e)) (he : P.underlying e = some (.int k)) (hc : P.cellsOf e = 1)
    (xs ys : Array Value) (f g : Nat → Int) (hx : ∀ i, i < n → xs[i]? = some (.int k' (f i))) (hy : ∀ i, i < n → ys[i]? = some (.int k' (g i))) (w : World) :
    (Op.equalIn (d + 2) t (.agg xs) (.agg ys)).run P w = .ok ((List.range n).all fun i => f i == g i) w := by
  obtain ⟨ie, hie⟩ := info_of_underlying he
  rw [run_equalIn_array (P := P) w (d + 1) xs ys ht hie]
  have key : ∀ l : List Nat, (∀ i ∈ l, i < n) → (Op.eqItems (d + 1) e (P.cellsOf e) xs ys l).run P w = .ok (l.all fun i => f i == g i) w := by
    intro l
    induction l with
    | nil => intro _; rfl
    | cons i l ih =>
      intro h
      have h1 := run_part_int he (hx i (h i (by simp))) w
      have h2 := run_part_int he (hy i (h i (by simp))) w
      simp only [Op.eqItems, Sem.run_bind, hc, Nat.mul_one, h1, h2, Result.andThen_ok, run_equalIn_int w d e k' k (f i) (g i) he, List.all_cons]
      by_cases hfg : f i = g i
      · simp only [hfg, beq_self_eq_true, Bool.not_true, Bool.false_eq_true, if_false, Bool.true_and]
        have := ih (fun j hj => h j (by simp [hj]))
        rw [hc] at this
        exact this
      · have hb : (f i == g i) = false := by simpa using hfg
        simp [hb]
  exact key (List.range n) (fun i hi => by simpa using hi)
theorem rd_setCell_same (w : World) (b j n : Nat) (v : Value) : rd (w.setCell ⟨b, j, none⟩ v) b 0 n = (rd w b 0 n).map (·.setIfInBounds j v) := by
  unfold rd
  cases hb : w.heap[b]? with
  | none => simp [World.setCell, Array.getElem?_modify, hb]
  | some x =>
    cases x <;> simp [World.setCell, Array.getElem?_modify, hb]
    rename_i c e fr
    split
    · simp only [Option.map_some, Option.some.injEq]
      apply Array.ext_getElem?
      intro i
      simp only [Array.getElem?_extract, Array.getElem?_setIfInBounds, Array.size_extract, Array.size_setIfInBounds]
      by_cases hij : j = i
      · subst hij
        by_cases hj : j < n
        · simp only [Nat.zero_add, if_true]
          rw [if_pos (by omega), if_pos (by omega), if_pos (by omega)]
        · rw [if_neg (by omega), if_pos rfl, if_neg (by omega)]
      · simp only [Nat.zero_add, if_neg hij]
    · rfl
theorem canW_setCell' (w : World) (p : Addr) (v : Value) (b o n : Nat) : canW (w.setCell p v) b o n = canW w b o n := by
  unfold canW
  by_cases h : b = p.block
  · subst h
    cases hb : w.heap[p.block]? with
    | none => simp [World.setCell, Array.getElem?_modify, hb]
    | some x =>
      cases x <;> simp [World.setCell, Array.getElem?_modify, hb]
      split <;> simp
  · rw [Below.heap_setCell w p v b h]
theorem frozen_wr_other (w : World) (b o : Nat) (cs : Array Value) (p : Addr) (h : p.block ≠ b) : (wr w b o cs).frozen? p = w.frozen? p := World.frozen?_of_block (heap_wr_other b _ _ _ _ h)

/-! ### a row of elements that the call owns; append onto it -/
def Ow (w : World) (base : Nat) (e : TypeId) (sz : Nat) (v : Value) (xs : List (Array Value)) : Prop := w.ownsRow base e sz v xs.length (flat xs)
section
variable {w w' : World} {base sz : Nat} {e : TypeId} {v : Value} {xs ys : List (Array Value)}
theorem Ow.nil (w : World) (base : Nat) (e : TypeId) (sz : Nat) : Ow w base e sz (.slice none 0 0) [] := World.ownsRow_nil w base e sz
theorem Ow.form (h : Ow w base e sz v xs) : ∃ A c, v = .slice A xs.length c ∧ xs.length ≤ c ∧ c ≤ maxLen := by
  rcases h.2 with ⟨rfl, h0⟩ | ⟨g, cap, cur, rfl, _, _, h1, h2, _⟩
  · exact ⟨none, 0, by rw [h0], by omega, by unfold maxLen; omega⟩
  · exact ⟨_, cap, rfl, h1, h2⟩
theorem Ow.sl {A : Option Addr} {n c : Nat} (h : Ow w base e sz (.slice A n c) xs) (hs : Sized sz xs) (hsz : 0 < sz) : Sl w base w.heap.size sz A xs := by
  intro hne
  have hpos : 0 < xs.length := List.length_pos_iff.2 hne
  rcases h.2 with ⟨_, h0⟩ | ⟨g, cap, cur, hv, hb, hg, h1, h2, h3, h4⟩
  · omega
  · injection hv with hA
    subst hA
    have hlt : g < w.heap.size := (Array.getElem?_eq_some_iff.1 hg).1
    refine (Sl.of_block (L := base) (B := w.heap.size) (o := 0) hg hb hlt hs (fun j u hu => ?_) hsz) hne
    rw [← h4] at hu
    have hj := (List.getElem?_eq_some_iff.1 hu).1
    rw [List.getElem?_take] at hu
    split at hu
    · simpa using hu
    · cases hu
theorem Ow.kept {row : Option Nat} (h : Ow w base e sz v xs) (hg : w.grownBy w' row) (hne : v.ownBlock = none ∨ v.ownBlock ≠ row) : Ow w' base e sz v xs := World.ownsRow.kept h hg hne
theorem Ow.alloc (h : Ow w base e sz v xs) (o : Obj) : Ow (w.alloc o) base e sz v xs := World.ownsRow.alloc h o
theorem Ow.drew (h : Ow w base e sz v xs) : Ow w.drew base e sz v xs := h
theorem Ow.below {B : Nat} (h : Ow w base e sz v xs) (hb : Below B w w') (hB : ∀ g, v.ownBlock = some g → g < B) : Ow w' base e sz v xs := by
  refine ⟨h.1, ?_⟩
  rcases h.2 with h0 | ⟨g, cap, cur, rfl, h1, h2, h3⟩
  · exact .inl h0
  · exact .inr ⟨g, cap, cur, rfl, h1, (hb.block g (hB g rfl)).trans h2, h3⟩
theorem Ow.lt (h : Ow w base e sz v xs) : ∀ g, v.ownBlock = some g → base ≤ g ∧ g < w.heap.size := World.ownsRow.lt h
theorem Ow.setCell (h : Ow w base e sz v xs) {p : Addr} (hp : p.block < base) (u : Value) : Ow (w.setCell p u) base e sz v xs := by
  refine ⟨h.1, ?_⟩
  rcases h.2 with h0 | ⟨g, cap, cur, rfl, h1, h2, h3⟩
  · exact .inl h0
  · exact .inr ⟨g, cap, cur, rfl, h1, (Below.heap_setCell w p u g (by omega)).trans h2, h3⟩
end
theorem run_append_nil_src {P : Program} (w : World) (base : Nat) (t ty e : TypeId) (i : TypeInfo) (size : Nat) (ht : P.underlying t = some (.slice e)) (hi : P.info? e = some i)
    (v : Value) (n : Nat) (xs : List Value) (hown : w.ownsRow base e size v n xs) (c : Nat) : (Builtin.append_ #[t, t] ty #[v, .slice none 0 c]).run P w = .ok v w := by
  rcases hown.2 with ⟨rfl, rfl⟩ | ⟨g, cap, cur, rfl, _, _, hnc, _⟩
  · simp [Builtin.append_, run_underlying ht, sizeOf, typeInfo, hi, Builtin.lenOf, Builtin.firstCells]
  · simp [Builtin.append_, run_underlying ht, sizeOf, typeInfo, hi, Builtin.lenOf, Builtin.firstCells, hnc, storeCells]
/-- APPEND onto a row of the call's own: what comes, and in which world. -/
theorem run_append_ow {P : Program} (w : World) (base : Nat) (t ty e : TypeId) (i : TypeInfo) (z : Value) (size bytes : Nat) (ht : P.underlying t = some (.slice e)) (hi : P.info? e = some i) (hz : i.zero = some z)
    (hsize : i.size = size) (hby : i.bytes = bytes) (hzs : z.cells.size = size) (hsz : 0 < size)
    (v : Value) (xs : List (Array Value)) (hown : Ow w base e size v xs) (L B : Nat) (A : Option Addr) (m c : Nat) (ys : List (Array Value)) (hy : Sl w L B size A ys) (hs : Sized size ys) (h1 : Ones ys) (hm : ys.length = m)
    (h63 : xs.length + m ≤ maxLen) (hbytes : (xs.length + m) * bytes ≤ 140737488355328) (hbase : base ≤ w.heap.size) :
    ∃ A' c' w', (Builtin.append_ #[t, t] ty #[v, .slice A m c]).run P w = .ok (.slice A' (xs.length + m) c') w' ∧ Ow w' base e size (.slice A' (xs.length + m) c') (xs ++ ys) ∧ w.grownBy w' v.ownBlock ∧ xs.length + m ≤ c' := by
  subst hm
  have fin : ∀ (v' : Value) (w' : World), (Builtin.append_ #[t, t] ty #[v, .slice A ys.length c]).run P w = .ok v' w' → w'.ownsRow base e size v' (xs.length + ys.length) (flat xs ++ flat ys) → w.grownBy w' v.ownBlock →
      ∃ A' c' w', (Builtin.append_ #[t, t] ty #[v, .slice A ys.length c]).run P w = .ok (.slice A' (xs.length + ys.length) c') w' ∧ Ow w' base e size (.slice A' (xs.length + ys.length) c') (xs ++ ys) ∧ w.grownBy w' v.ownBlock ∧ xs.length + ys.length ≤ c' := by
    intro v' w' hrun ho hg
    have ho' : Ow w' base e size v' (xs ++ ys) := by unfold Ow; rw [flat_append, List.length_append]; exact ho
    obtain ⟨A', c', hv, hc, _⟩ := ho'.form
    rw [List.length_append] at hv hc
    rw [hv] at hrun ho'
    exact ⟨A', c', w', hrun, ho', hg, hc⟩
  rcases A with _ | ad
  · have hn : ys = [] := by
      rcases List.eq_nil_or_concat ys with h0 | ⟨_, _, h0⟩
      · exact h0
      · obtain ⟨b, o, e', _⟩ := hy (by rw [h0]; simp)
        cases e'
    subst hn
    exact fin v w (run_append_nil_src w base t ty e i size ht hi v _ _ hown c) (by simpa [flat, Ow] using hown) (World.grownBy.refl w _)
  · have hcells : ∀ j u, (flat ys)[j]? = some u → w.cell? (ad.add j) = some u := by
      intro j u hu
      by_cases hne : ys = []
      · subst hne; simp [flat] at hu
      · obtain ⟨b, o, e', _, _, hc⟩ := hy.flat_cells hs hne
        injection e' with e'
        subst e'
        rw [Addr.add_mid]
        exact hc j u hu
    obtain ⟨v', w', hrun, h2, h3, _, _⟩ := run_append_own_at (P := P) w base t ty e i z size bytes ht hi hz hsize hby hzs hsz v xs.length (flat xs) hown ad ys.length c (flat ys) (flat_len hs) hcells h1.flat_all h63 hbytes hbase
    exact fin v' w' hrun h2 h3
theorem run_bsS_zero {P : Program} (w : World) (t elem : TypeId) (i : TypeInfo) (hu : P.underlying t = some (.slice elem)) (hi : P.info? elem = some i) :
    (bsS t 0 #[]).run P w = .ok (.slice (some ⟨w.heap.size, 0, none⟩) 0 0) (w.alloc (.cells #[] elem)) := by
  simp [bsS, Instr.buildSlice, run_underlying hu, sizeOf, typeInfo, hi, Instr.fill, newRow]
  congr 2
  apply Array.eq_empty_of_size_eq_zero
  simp
theorem Ow.empty (w : World) (e : TypeId) (sz : Nat) : Ow (w.alloc (.cells #[] e)) w.heap.size e sz (.slice (some ⟨w.heap.size, 0, none⟩) 0 0) [] :=
  ⟨by simp [flat], .inr ⟨w.heap.size, 0, #[], rfl, Nat.le_refl _, heap_alloc_new w _, Nat.le_refl _, by unfold maxLen; omega, by simp, by simp [flat]⟩⟩
theorem below_grown {B : Nat} {a w w' : World} {row : Option Nat} (h : Below B a w) (hg : w.grownBy w' row) (hB : B ≤ w.heap.size) (hr : ∀ k, row = some k → B ≤ k) : Below B a w' := h.grown hg hB hr
/-- the same, whatever comes: the slot is looked at first -/
theorem step_append_ex {P : Program} {ops : Array Oper} {o : Oper} {a : Act} {w : World} {K : Act → World → Prop} {Q : Exit → Act → World → Prop} {E : Prop} (s x : Operand) (t : TypeId)
    (ho : o.op = .call { callee := .builtin .append, args := #[s, x], argTypes := #[t, t] }) (hw : Region.wanted o (yielded ops a.tmps) = true)
    (h : ∃ v w', (Builtin.append_ #[t, t] o.type #[a.eval s, a.eval x]).run P w = .ok v w' ∧ K (a.put o.dst v) w') :
    if Region.wanted o (yielded ops a.tmps) = true then Oper.wp P o a w K Q else E := by
  obtain ⟨v, w', hrun, h⟩ := h
  exact step_append_of_run hw s x t ho v w' hrun h
end Go.Proofs.Ytnihgfhaenpfkaa.Base
