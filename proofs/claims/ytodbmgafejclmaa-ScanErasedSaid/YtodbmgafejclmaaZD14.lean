/-
  Parts of a proof, laid together by a program of mine (pack.py): Mem, Ent, By, Ec, Eb, Go, Ta, Rw, St, PRqx0, Rng, Gf.
-/
import Derived.WalkKit
import Derived.WalkSpells
import Derived.WalkLawsBesides
import Derived.Deep.MidRow
import Derived.Deep.Draws
import Derived.Lib.Hide
import Derived.ChangeKeysEq
import Derived.Maps.AppendAt
import Derived.Deep.AppendLies
import Derived.OwnWalk
import Derived.Laws.StructEq
import Derived.KernelRfl
import Derived.Deep.RegionHeld3
import Derived.BigQuiet
import Derived.BigGuardPart
import Derived.Deep.DeepCutAuto
import Derived.Maps.OwnSet
import Derived.Maps.OwnOps
import Derived.Below
import Derived.Laws.BytesArg
import Derived.Laws.MakeOwn
import Derived.Laws.OwnMore
import Derived.Deep.OwnRows
import Derived.Tactics
import Derived.Lib.ConvBytes
import Derived.Laws.Slices
import Derived.RowKit3
import Derived.Deep.LoopGhost
import Derived.Deep.QuietTactic
import Derived.WideLaws
import Derived.Deep.CutBlock
import Derived.Laws.Rows
import Derived.Lib.AppendStr
import Derived.ArgAppend
import Derived.Laws.IdiomCopy
import Derived.OrdersHeld
import Derived.Laws.BitsLemmas
import Derived.RowKit
import Derived.RangeFuncNested
import Derived.RangeFuncBound
import Derived.RangeFuncCalls
import Derived.RangeFuncLeaves
import Derived.RangeFuncFrom
import Derived.OwnWalkIn
import Derived.TacticsInMore
import Derived.LoopNIn
import Derived.LoopIn
import Derived.StillTailTactics
import Derived.RegionIn
import Derived.Stop.RegionWithIn
import Derived.Test.YtodbmgafejclmaaZD0
import Derived.Test.YtodbmgafejclmaaZD1
import Derived.Test.YtodbmgafejclmaaZD2
import Derived.Test.YtodbmgafejclmaaZD3
import Derived.Test.YtodbmgafejclmaaZD4
import Derived.Test.YtodbmgafejclmaaZD5
import Derived.Test.YtodbmgafejclmaaZD6
import Derived.Test.YtodbmgafejclmaaZD7
import Derived.Test.YtodbmgafejclmaaZD8
import Derived.Test.YtodbmgafejclmaaZD9
import Derived.Test.YtodbmgafejclmaaZD10
import Derived.Test.YtodbmgafejclmaaZD11
import Derived.Test.YtodbmgafejclmaaZD12
import Derived.Test.YtodbmgafejclmaaZD13
import Derived.Test.YtodbmgafejclmaaProg
namespace Go.Proofs.Ytodbmgafejclmaa.Base
set_option linter.unusedSimpArgs false
set_option linter.unusedVariables false
open Go.RowKit
theorem hide {p : Prop} (h : p) : Hid p := h
theorem unhide {p : Prop} (h : Hid p) : p := h
/-- n cells of block b from offset o on. -/
def rd (w : World) (b o n : Nat) : Option (Array Value) :=
  match w.heap[b]? with
  | some (.cells c _ _) => if o + n ≤ c.size then some (c.extract o (o + n)) else none
  | _ => none
/-- n cells of block b from offset o on are there and may be written. -/
def canW (w : World) (b o n : Nat) : Bool :=
  match w.heap[b]? with
  | some (.cells c _ fr) => decide (o + n ≤ c.size) && decide (fr = (0, 0))
  | _ => false
def wr (w : World) (b o : Nat) (cs : Array Value) : World := w.setCells b o cs.toList
theorem rd_congr {w w' : World} {b : Nat} (h : w'.heap[b]? = w.heap[b]?) (o n : Nat) : rd w' b o n = rd w b o n := by unfold rd; rw [h]
theorem canW_congr {w w' : World} {b : Nat} (h : w'.heap[b]? = w.heap[b]?) (o n : Nat) : canW w' b o n = canW w b o n := by unfold canW; rw [h]
theorem rd_cell {w : World} {b o n : Nat} {cs : Array Value} (h : rd w b o n = some cs) (j : Nat) (hj : j < n) : w.cell? ⟨b, o + j, none⟩ = cs[j]? := by
  unfold rd at h
  unfold World.cell?
  cases hb : w.heap[b]? with
  | none => simp [hb] at h
  | some x =>
    cases x <;> simp [hb] at h
    rename_i c e fr
    obtain ⟨h1, rfl⟩ := h
    simp [Array.getElem?_extract]
    omega
theorem rd_size {w : World} {b o n : Nat} {cs : Array Value} (h : rd w b o n = some cs) : cs.size = n := by
  unfold rd at h
  cases hb : w.heap[b]? with
  | none => simp [hb] at h
  | some x =>
    cases x <;> simp [hb] at h
    obtain ⟨h1, rfl⟩ := h
    simp; omega
/-- a part of what is read -/
theorem rd_part {w : World} {b o n : Nat} {cs : Array Value} (h : rd w b o n = some cs) (k m : Nat) (hk : k + m ≤ n) : rd w b (o + k) m = some (cs.extract k (k + m)) := by
  unfold rd at h ⊢
  cases hb : w.heap[b]? with
  | none => simp [hb] at h
  | some x =>
    cases x <;> simp [hb] at h
    rename_i c e fr
    obtain ⟨h1, rfl⟩ := h
    simp only
    rw [if_pos (by omega)]
    simp [Array.extract_extract]
    congr 1 <;> omega
theorem rd_of_cells {w : World} {b o : Nat} {cs : Array Value} (hpos : 0 < cs.size) (h : ∀ j, j < cs.size → w.cell? ⟨b, o + j, none⟩ = cs[j]?) : rd w b o cs.size = some cs := by
  unfold rd
  have hl := h (cs.size - 1) (by omega)
  unfold World.cell? at hl
  cases hb : w.heap[b]? with
  | none => rw [hb] at hl; simp at hl; omega
  | some x =>
    cases x <;> rw [hb] at hl <;> simp at hl
    case cells c e fr =>
      have hsz : o + (cs.size - 1) < c.size := by
        rcases Nat.lt_or_ge (o + (cs.size - 1)) c.size with h' | h'
        · exact h'
        · rw [Array.getElem?_eq_none h', Array.getElem?_eq_getElem (by omega)] at hl; simp at hl
      simp only
      rw [if_pos (by omega)]
      congr 1
      apply Array.ext_getElem?
      intro j
      rw [Array.getElem?_extract]
      by_cases hj : j < cs.size
      · have := h j hj
        unfold World.cell? at this
        rw [hb] at this
        simp at this
        rw [if_pos (by omega), this]
      · rw [if_neg (by omega), Array.getElem?_eq_none (by omega)]
    all_goals omega
theorem rd_one {w : World} {b o : Nat} {v : Value} (h : w.cell? ⟨b, o, none⟩ = some v) : rd w b o 1 = some #[v] :=
  rd_of_cells (cs := #[v]) (by simp) (fun j hj => by
    have : j = 0 := by simp at hj; omega
    subst this; simpa using h)
theorem rd_below {B : Nat} {w w' : World} (hb : Below B w w') {b : Nat} (h : b < B) (o n : Nat) : rd w' b o n = rd w b o n := rd_congr (hb.block b h) o n
theorem canW_below {B : Nat} {w w' : World} (hb : Below B w w') {b : Nat} (h : b < B) (o n : Nat) : canW w' b o n = canW w b o n := canW_congr (hb.block b h) o n
theorem rd_drew (w : World) (b o n : Nat) : rd w.drew b o n = rd w b o n := rfl
theorem rd_drewN (w : World) (k b o n : Nat) : rd (w.drewN k) b o n = rd w b o n := rfl
theorem canW_drew (w : World) (b o n : Nat) : canW w.drew b o n = canW w b o n := rfl
theorem canW_drewN (w : World) (k b o n : Nat) : canW (w.drewN k) b o n = canW w b o n := rfl
theorem rd_alloc (w : World) (X : Obj) (b o n : Nat) (h : b < w.heap.size) : rd (w.alloc X) b o n = rd w b o n := rd_congr (Below.heap_alloc w X b h) o n
theorem canW_alloc (w : World) (X : Obj) (b o n : Nat) (h : b < w.heap.size) : canW (w.alloc X) b o n = canW w b o n := canW_congr (Below.heap_alloc w X b h) o n
theorem rd_new (w : World) (c : Array Value) (e : TypeId) (fr : Nat × Nat) (b o n : Nat) (h : b = w.heap.size) (hn : o + n ≤ c.size) : rd (w.alloc (.cells c e fr)) b o n = some (c.extract o (o + n)) := by
  subst h
  unfold rd
  rw [heap_alloc_new]
  simp only
  rw [if_pos hn]
theorem rd_new_whole (w : World) (c : Array Value) (e : TypeId) (fr : Nat × Nat) (b n : Nat) (h : b = w.heap.size) (hn : n = c.size) : rd (w.alloc (.cells c e fr)) b 0 n = some c := by
  rw [rd_new w c e fr b 0 n h (by omega)]
  simp [hn]
theorem canW_new (w : World) (c : Array Value) (e : TypeId) (b o n : Nat) (h : b = w.heap.size) (hn : o + n ≤ c.size) : canW (w.alloc (.cells c e)) b o n = true := by
  subst h
  unfold canW
  rw [heap_alloc_new]
  simp [hn]
theorem rd_setCell (w : World) (p : Addr) (v : Value) (b o n : Nat) (h : b ≠ p.block) : rd (w.setCell p v) b o n = rd w b o n := rd_congr (Below.heap_setCell w p v b h) o n
theorem heap_wr_other (b : Nat) : ∀ (vs : List Value) (o : Nat) (w : World) (k : Nat), k ≠ b → (w.setCells b o vs).heap[k]? = w.heap[k]?
  | [], _, _, _, _ => rfl
  | v :: vs, o, w, k, h => by
    simp only [World.setCells]
    rw [heap_wr_other b vs (o + 1) _ k h]
    exact Below.heap_setCell w _ v k h
theorem rd_wr_other (w : World) (b' o' : Nat) (cs : Array Value) (b o n : Nat) (h : b ≠ b') : rd (wr w b' o' cs) b o n = rd w b o n := rd_congr (heap_wr_other b' _ _ _ _ h) o n
theorem canW_wr_other (w : World) (b' o' : Nat) (cs : Array Value) (b o n : Nat) (h : b ≠ b') : canW (wr w b' o' cs) b o n = canW w b o n := canW_congr (heap_wr_other b' _ _ _ _ h) o n
theorem size_wr (w : World) (b o : Nat) (cs : Array Value) : (wr w b o cs).heap.size = w.heap.size := by
  unfold wr
  generalize cs.toList = vs
  induction vs generalizing w o with
  | nil => rfl
  | cons v vs ih => simp only [World.setCells]; rw [ih]; simp [World.setCell]
/-- what a block is behind a store of a range -/
theorem heap_setCells_same (b : Nat) : ∀ (vs : List Value) (o : Nat) (w : World) (c : Array Value) (e : TypeId) (fr : Nat × Nat), w.heap[b]? = some (.cells c e fr) → o + vs.length ≤ c.size →
    (w.setCells b o vs).heap[b]? = some (.cells (c.toList.take o ++ vs ++ c.toList.drop (o + vs.length)).toArray e fr)
  | [], o, w, c, e, fr, h, _ => by
    simp only [World.setCells, List.append_nil, List.length_nil, Nat.add_zero, List.take_append_drop, Array.toArray_toList]; exact h
  | v :: vs, o, w, c, e, fr, h, hl => by
    simp only [World.setCells]
    have h1 : (w.setCell ⟨b, o, none⟩ v).heap[b]? = some (.cells (c.setIfInBounds o v) e fr) := by
      simp [World.setCell, Array.getElem?_modify, h]
    rw [heap_setCells_same b vs (o + 1) _ _ e fr h1 (by simp at hl ⊢; omega)]
    congr 3
    have := list_seg_step c.toList o v vs (by simpa using hl)
    simp only [Array.toList_setIfInBounds]
    rw [this]
    simp
theorem rd_wr_same (w : World) (b o n : Nat) (cs : Array Value) (hn : n = cs.size) (h : canW w b o n = true) : rd (wr w b o cs) b o n = some cs := by
  subst hn
  unfold canW at h
  cases hb : w.heap[b]? with
  | none => simp [hb] at h
  | some x =>
    cases x <;> simp [hb] at h
    rename_i c e fr
    unfold rd wr
    rw [heap_setCells_same b cs.toList o w c e fr hb (by simpa using h.1)]
    simp only
    rw [if_pos (by simp; omega)]
    congr 1
    apply Array.ext_getElem?
    intro j
    rw [Array.getElem?_extract]
    by_cases hj : j < cs.size
    · rw [if_pos (by simp; omega)]
      simp only [List.getElem?_toArray]
      rw [List.append_assoc, List.getElem?_append_right (by simp; omega)]
      rw [List.getElem?_append_left (by simp; omega)]
      simp
      congr 1
      omega
    · rw [if_neg (by simp; omega), Array.getElem?_eq_none (by omega)]
theorem canW_wr (w : World) (b' o' : Nat) (cs : Array Value) (b o n : Nat) (h : canW w b' o' cs.size = true) : canW (wr w b' o' cs) b o n = canW w b o n := by
  by_cases hbb : b = b'
  · subst hbb
    unfold canW at h
    cases hb : w.heap[b]? with
    | none => simp [hb] at h
    | some x =>
      cases x <;> simp [hb] at h
      rename_i c e fr
      unfold canW wr
      rw [heap_setCells_same b cs.toList o' w c e fr hb (by simpa using h.1), hb]
      simp
      have : min o' c.size + (cs.size + (c.size - (o' + cs.size))) = c.size := by omega
      rw [this]
  · exact canW_wr_other w b' o' cs b o n hbb
theorem below_wr {B : Nat} {w0 w : World} (hb : Below B w0 w) {b : Nat} (h : B ≤ b) (o : Nat) (cs : Array Value) : Below B w0 (wr w b o cs) := by
  unfold wr
  generalize cs.toList = vs
  induction vs generalizing w o with
  | nil => exact hb
  | cons v vs ih => simp only [World.setCells]; exact ih (hb.setCell (p := ⟨b, o, none⟩) h v) _
theorem wr_new (w : World) (c : Array Value) (e : TypeId) (b : Nat) (cs : Array Value) (h : b = w.heap.size) (hn : cs.size = c.size) : wr (w.alloc (.cells c e)) b 0 cs = w.alloc (.cells cs e) := by
  subst h
  have hs := heap_setCells_same w.heap.size cs.toList 0 (w.alloc (.cells c e)) c e (0, 0) (heap_alloc_new w _) (by simp; omega)
  have hd : List.drop (0 + cs.toList.length) c.toList = [] := by apply List.drop_eq_nil_of_le; simp; omega
  rw [hd] at hs
  simp only [List.take_zero, List.nil_append, List.append_nil, Array.toArray_toList] at hs
  have key : ∀ (vs : List Value) (o : Nat) (u : World), ((u.setCells w.heap.size o vs).os = u.os ∧ (u.setCells w.heap.size o vs).tape = u.tape ∧ (u.setCells w.heap.size o vs).drawn = u.drawn ∧ (u.setCells w.heap.size o vs).output = u.output) := by
    intro vs
    induction vs with
    | nil => intro o u; exact ⟨rfl, rfl, rfl, rfl⟩
    | cons v vs ih => intro o u; simp only [World.setCells]; exact ih _ _
  obtain ⟨k1, k2, k3, k4⟩ := key cs.toList 0 (w.alloc (.cells c e))
  have hheap : ((w.alloc (.cells c e)).setCells w.heap.size 0 cs.toList).heap = (w.alloc (.cells cs e)).heap := by
    apply Array.ext_getElem?
    intro i
    by_cases hi : i = w.heap.size
    · subst hi; rw [hs, heap_alloc_new]
    · rw [heap_wr_other _ _ _ _ _ hi]
      by_cases hl : i < w.heap.size
      · rw [Below.heap_alloc w _ i hl, Below.heap_alloc w _ i hl]
      · have h1 : (w.alloc (.cells c e)).heap.size = w.heap.size + 1 := by simp
        have h2 : (w.alloc (.cells cs e)).heap.size = w.heap.size + 1 := by simp
        rw [Array.getElem?_eq_none (by omega), Array.getElem?_eq_none (by omega)]
  unfold wr
  cases hx : (w.alloc (.cells c e)).setCells w.heap.size 0 cs.toList with
  | mk heap tape drawn os output =>
    rw [hx] at k1 k2 k3 k4 hheap
    simp only at k1 k2 k3 k4 hheap
    subst k1 k2 k3 k4 hheap
    rfl
theorem setCells_alloc (b : Nat) (X : Obj) : ∀ (vs : List Value) (o : Nat) (w : World), b < w.heap.size → (w.alloc X).setCells b o vs = (w.setCells b o vs).alloc X
  | [], _, _, _ => rfl
  | v :: vs, o, w, h => by
    simp only [World.setCells]
    have hh : ((w.alloc X).setCell ⟨b, o, none⟩ v).heap = ((w.setCell ⟨b, o, none⟩ v).alloc X).heap := by
      apply Array.ext_getElem?
      intro i
      by_cases hi : i = b
      · subst hi
        rw [Below.heap_alloc _ X i (by simpa [World.setCell] using h)]
        simp [World.setCell, Array.getElem?_modify, Below.heap_alloc w X i h]
      · rw [Below.heap_setCell _ _ _ _ hi]
        have hz : (w.setCell ⟨b, o, none⟩ v).heap.size = w.heap.size := by simp [World.setCell]
        by_cases hl : i < w.heap.size
        · rw [Below.heap_alloc _ X i hl, Below.heap_alloc _ X i (by omega), Below.heap_setCell _ _ _ _ hi]
        · by_cases he : i = w.heap.size
          · subst he; rw [heap_alloc_new, ← hz, heap_alloc_new]
          · rw [Array.getElem?_eq_none (by simp; omega), Array.getElem?_eq_none (by simp [hz]; omega)]
    have h1 : (w.alloc X).setCell ⟨b, o, none⟩ v = (w.setCell ⟨b, o, none⟩ v).alloc X := congrArg (fun hp => ({ (w.alloc X) with heap := hp } : World)) hh
    rw [h1]
    exact setCells_alloc b X vs (o + 1) _ (by simpa [World.setCell] using h)
theorem wr_alloc (w : World) (X : Obj) (b o : Nat) (cs : Array Value) (h : b < w.heap.size) : wr (w.alloc X) b o cs = (wr w b o cs).alloc X := setCells_alloc b X cs.toList o w h
def Sl (w : World) (L B sz : Nat) (A : Option Addr) (xs : List (Array Value)) : Prop :=
  xs ≠ [] → ∃ b o, A = some ⟨b, o, none⟩ ∧ L ≤ b ∧ b < B ∧ ∀ i (h : i < xs.length), rd w b (o + i * sz) sz = some xs[i]
section
variable {w w' : World} {L L' B B' sz : Nat} {A : Option Addr} {xs : List (Array Value)}
theorem Sl.nil : Sl w L B sz A [] := fun h => absurd rfl h
theorem Sl.pos (h : Sl w L B sz A xs) (hn : 0 < xs.length) : ∃ b o, A = some ⟨b, o, none⟩ ∧ L ≤ b ∧ b < B ∧ ∀ i (h : i < xs.length), rd w b (o + i * sz) sz = some xs[i] :=
  h (by intro e; subst e; simp at hn)
theorem Sl.below (h : Sl w L B sz A xs) (hb : Below B w w') : Sl w' L B sz A xs := fun hn => by
  obtain ⟨b, o, e, hL, hlt, hr⟩ := h hn
  exact ⟨b, o, e, hL, hlt, fun i hi => (rd_below hb hlt _ _).trans (hr i hi)⟩
theorem Sl.more (h : Sl w L B sz A xs) (hB : B ≤ B') : Sl w L B' sz A xs := fun hn => by
  obtain ⟨b, o, e, hL, hlt, hr⟩ := h hn
  exact ⟨b, o, e, hL, by omega, hr⟩
theorem Sl.less (h : Sl w L B sz A xs) (hL' : L' ≤ L) : Sl w L' B sz A xs := fun hn => by
  obtain ⟨b, o, e, hL, hlt, hr⟩ := h hn
  exact ⟨b, o, e, by omega, hlt, hr⟩
theorem Sl.setCell (h : Sl w L B sz A xs) {p : Addr} (hp : p.block < L ∨ B ≤ p.block) (v : Value) : Sl (w.setCell p v) L B sz A xs := fun hn => by
  obtain ⟨b, o, e, hL, hlt, hr⟩ := h hn
  exact ⟨b, o, e, hL, hlt, fun i hi => (rd_setCell w p v b _ _ (by omega)).trans (hr i hi)⟩
theorem Sl.drew (h : Sl w L B sz A xs) : Sl w.drew L B sz A xs := h
theorem Sl.drewN (h : Sl w L B sz A xs) (k : Nat) : Sl (w.drewN k) L B sz A xs := h
theorem Sl.alloc (h : Sl w L B sz A xs) (hB : B ≤ w.heap.size) (o : Obj) : Sl (w.alloc o) L B sz A xs := h.below ((Below.refl B w).alloc hB o)
theorem Sl.take (h : Sl w L B sz A xs) (k : Nat) : Sl w L B sz A (xs.take k) := fun hn => by
  obtain ⟨b, o, e, hL, hlt, hr⟩ := h (by rintro rfl; simp at hn)
  refine ⟨b, o, e, hL, hlt, fun i hi => ?_⟩
  rw [hr i (by simp at hi; omega)]
  simp
theorem Sl.at_ {k : Nat} (h : Sl w L B sz A xs) (hk : k < xs.length) : ∃ b o, A = some ⟨b, o, none⟩ ∧ L ≤ b ∧ b < B ∧ rd w b (o + k * sz) sz = some xs[k] := by
  obtain ⟨b, o, e, hL, hlt, hr⟩ := h.pos (by omega)
  exact ⟨b, o, e, hL, hlt, hr k hk⟩
end
def ldV (t : TypeId) (a : Addr) : Sem Value := loadVar t a
def stV (t : TypeId) (a : Addr) (v : Value) : Sem Unit := storeVar t a v
def ldR (P : Program) (t : TypeId) (a : Addr) (r : Option (Array Value)) (w : World) : Result Value :=
  match r with
  | some cs => .ok (.agg cs) w
  | none => (loadVar t a).run P w
theorem ldR_some (P : Program) (t : TypeId) (a : Addr) (cs : Array Value) (w : World) : ldR P t a (some cs) w = .ok (.agg cs) w := rfl
theorem run_ldV (P : Program) (t : TypeId) (n : Nat) (d : TypeDesc) (hu : P.underlying t = some d) (hd : d.isRow = true) (hi : (P.info? t).map (·.size) = some n) (w : World) (b o : Nat) :
    (ldV t ⟨b, o, none⟩).run P w = ldR P t ⟨b, o, none⟩ (rd w b o n) w := by
  cases h : rd w b o n with
  | none => rfl
  | some cs =>
    have hsz := rd_size h
    rw [ldR_some]
    unfold ldV
    have := run_loadVar_mid (P := P) w b o t cs.toList d (fun j v hj => by
      have hj' : j < n := by
        have := (List.getElem?_eq_some_iff.1 hj).1
        simp at this; omega
      rw [rd_cell h j hj']
      simpa using hj) hu hd (by rw [hi]; simp [hsz])
    simpa using this
def stR (P : Program) (t : TypeId) (a : Addr) (ok : Bool) (v : Value) (w w' : World) : Result Unit :=
  if ok then .ok () w' else (storeVar t a v).run P w
theorem stR_true (P : Program) (t : TypeId) (a : Addr) (v : Value) (w w' : World) : stR P t a true v w w' = .ok () w' := rfl
def okW (cs : Array Value) (n : Nat) : Bool := decide (cs.size = n) && cs.all (·.oneCell')
theorem run_stV (P : Program) (t : TypeId) (n : Nat) (hi : (P.info? t).map (·.size) = some n) (w : World) (b o : Nat) (cs : Array Value) :
    (stV t ⟨b, o, none⟩ (.agg cs)).run P w = stR P t ⟨b, o, none⟩ (canW w b o n && okW cs n) (.agg cs) w (wr w b o cs) := by
  cases h : (canW w b o n && okW cs n) with
  | false => rfl
  | true =>
    rw [stR_true]
    simp only [okW, Bool.and_eq_true, decide_eq_true_eq] at h
    obtain ⟨h1, h2, h3⟩ := h
    unfold stV
    refine run_storeVar_mid (P := P) w b o t cs ?_ (by rw [hi, h2]) h3
    intro j hj
    unfold canW at h1
    cases hb : w.heap[b]? with
    | none => simp [hb] at h1
    | some x =>
      cases x <;> simp [hb] at h1
      rename_i c e fr
      obtain ⟨hle, rfl⟩ := h1
      refine ⟨?_, ?_⟩
      · unfold World.cell?
        simp [hb]
        omega
      · simp [World.frozen?, hb]
theorem run_loadVar_rd {P : Program} {t : TypeId} {n : Nat} {d : TypeDesc} (hu : P.underlying t = some d) (hd : d.isRow = true) (hi : (P.info? t).map (·.size) = some n) {w : World} {b o : Nat} {cs : Array Value} (h : rd w b o n = some cs) :
    (loadVar t ⟨b, o, none⟩).run P w = .ok (.agg cs) w := by
  have := run_ldV P t n d hu hd hi w b o
  rw [h] at this
  exact this
theorem results_c {P : Program} {fn : Func} {p : Tmp} {t : TypeId} (hf : fn.results = #[.cell p t]) {n : Nat} {d : TypeDesc} (hu : P.underlying t = some d) (hd : d.isRow = true) (hi : (P.info? t).map (·.size) = some n)
    {w : World} {tmps : Array Value} {b o : Nat} {cs : Array Value} (hp : tmps.getD p undef = .pointer (some ⟨b, o, none⟩)) (h : rd w b o n = some cs) : (results fn tmps).run P w = .ok (.agg cs) w := by
  have hp' : tmps[p]?.getD undef = .pointer (some ⟨b, o, none⟩) := by simpa using hp
  simp [results, hf, hp', asAddr, run_loadVar_rd hu hd hi h]
theorem results_ct {P : Program} {fn : Func} {p q : Tmp} {t : TypeId} (hf : fn.results = #[.cell p t, .tmp q]) {n : Nat} {d : TypeDesc} (hu : P.underlying t = some d) (hd : d.isRow = true) (hi : (P.info? t).map (·.size) = some n)
    {w : World} {tmps : Array Value} {b o : Nat} {cs : Array Value} (hp : tmps.getD p undef = .pointer (some ⟨b, o, none⟩)) (h : rd w b o n = some cs) : (results fn tmps).run P w = .ok (.tuple #[.agg cs, tmps.getD q undef]) w := by
  have hp' : tmps[p]?.getD undef = .pointer (some ⟨b, o, none⟩) := by simpa using hp
  simp [results, hf, hp', asAddr, run_loadVar_rd hu hd hi h]
def flat (xs : List (Array Value)) : List Value := xs.flatMap Array.toList
def Sized (sz : Nat) (xs : List (Array Value)) : Prop := ∀ x ∈ xs, x.size = sz
def Ones (xs : List (Array Value)) : Prop := ∀ x ∈ xs, ∀ v ∈ x.toList, v.oneCell' = true
theorem flat_append (xs ys : List (Array Value)) : flat (xs ++ ys) = flat xs ++ flat ys := by simp [flat]
theorem flat_len {sz : Nat} : ∀ {xs : List (Array Value)}, Sized sz xs → (flat xs).length = xs.length * sz
  | [], _ => by simp [flat]
  | x :: xs, h => by
    have ih := flat_len (xs := xs) (fun y hy => h y (by simp [hy]))
    have hx := h x (by simp)
    simp only [flat, List.flatMap_cons, List.length_append, Array.length_toList, List.length_cons] at ih ⊢
    rw [ih, hx, Nat.add_mul]
    omega
theorem flat_at {sz : Nat} : ∀ {xs : List (Array Value)}, Sized sz xs → ∀ i (hi : i < xs.length) j, j < sz → (flat xs)[i * sz + j]? = xs[i][j]?
  | [], _, i, hi, _, _ => by simp at hi
  | x :: xs, h, i, hi, j, hj => by
    have hx := h x (by simp)
    simp only [flat, List.flatMap_cons]
    rcases i with _ | i
    · rw [List.getElem?_append_left (by simp; omega)]
      simp
    · have ih := flat_at (xs := xs) (fun y hy => h y (by simp [hy])) i (by simpa using hi) j hj
      have e : (i + 1) * sz + j = sz + (i * sz + j) := by rw [Nat.add_mul]; omega
      rw [List.getElem?_append_right (by simp; rw [hx, e]; omega)]
      simp only [Array.length_toList, hx, e, Nat.add_sub_cancel_left]
      simpa [flat] using ih
theorem Sized.append {sz : Nat} {xs ys : List (Array Value)} (h : Sized sz xs) (k : Sized sz ys) : Sized sz (xs ++ ys) := by
  intro x hx
  rcases List.mem_append.1 hx with h1 | h1
  · exact h x h1
  · exact k x h1
theorem Sized.take {sz : Nat} {xs : List (Array Value)} (h : Sized sz xs) (n : Nat) : Sized sz (xs.take n) := fun x hx => h x (List.mem_of_mem_take hx)
theorem Sized.drop {sz : Nat} {xs : List (Array Value)} (h : Sized sz xs) (n : Nat) : Sized sz (xs.drop n) := fun x hx => h x (List.mem_of_mem_drop hx)
theorem Ones.take {xs : List (Array Value)} (h : Ones xs) (n : Nat) : Ones (xs.take n) := fun x hx => h x (List.mem_of_mem_take hx)
theorem Ones.drop {xs : List (Array Value)} (h : Ones xs) (n : Nat) : Ones (xs.drop n) := fun x hx => h x (List.mem_of_mem_drop hx)
theorem Ones.append {xs ys : List (Array Value)} (h : Ones xs) (k : Ones ys) : Ones (xs ++ ys) := by
  intro x hx
  rcases List.mem_append.1 hx with h1 | h1
  · exact h x h1
  · exact k x h1
theorem Ones.flat_all {xs : List (Array Value)} (h : Ones xs) : ∀ v ∈ flat xs, v.oneCell' = true := by
  intro v hv
  simp only [flat, List.mem_flatMap] at hv
  obtain ⟨x, hx, hv⟩ := hv
  exact h x hx v hv
theorem flat_mod {sz : Nat} {xs : List (Array Value)} (h : Sized sz xs) {j : Nat} (hj : j < xs.length * sz) : ∃ i k, i < xs.length ∧ k < sz ∧ j = i * sz + k := by
  have hs : 0 < sz := by
    rcases Nat.eq_zero_or_pos sz with h0 | h0
    · subst h0; simp at hj
    · exact h0
  refine ⟨j / sz, j % sz, ?_, Nat.mod_lt _ hs, ?_⟩
  · exact Nat.div_lt_of_lt_mul (by rw [Nat.mul_comm]; exact hj)
  · have := Nat.div_add_mod j sz
    rw [Nat.mul_comm] at this
    omega
/-- a slice's cells, flat -/
theorem Sl.flat_cells {w : World} {L B sz : Nat} {A : Option Addr} {xs : List (Array Value)} (h : Sl w L B sz A xs) (hs : Sized sz xs) (hne : xs ≠ []) :
    ∃ b o, A = some ⟨b, o, none⟩ ∧ L ≤ b ∧ b < B ∧ ∀ j v, (flat xs)[j]? = some v → w.cell? ⟨b, o + j, none⟩ = some v := by
  obtain ⟨b, o, e, hL, hlt, hr⟩ := h hne
  refine ⟨b, o, e, hL, hlt, fun j v hv => ?_⟩
  have hl := (List.getElem?_eq_some_iff.1 hv).1
  rw [flat_len hs] at hl
  obtain ⟨i, k, hi, hk, rfl⟩ := flat_mod hs hl
  have h1 := rd_cell (hr i hi) k hk
  rw [flat_at hs i hi k hk] at hv
  rw [← Nat.add_assoc, h1, hv]
/-- a block that holds the cells of a row of elements is such a slice -/
theorem Sl.of_block {w : World} {L B sz g o : Nat} {xs : List (Array Value)} {cur : Array Value} {t : TypeId} {fr : Nat × Nat} (hg : w.heap[g]? = some (.cells cur t fr)) (hL : L ≤ g) (hB : g < B) (hs : Sized sz xs)
    (h : ∀ j v, (flat xs)[j]? = some v → cur[o + j]? = some v) (hsz : 0 < sz) : Sl w L B sz (some ⟨g, o, none⟩) xs := by
  intro _
  refine ⟨g, o, rfl, hL, hB, fun i hi => ?_⟩
  have hx : (xs[i]).size = sz := hs _ (List.getElem_mem hi)
  rw [← hx]
  refine rd_of_cells (by omega) (fun j hj => ?_)
  unfold World.cell?
  simp only [hg, Option.isSome_none, Bool.false_eq_true, if_false]
  rw [hx] at hj
  have hfl := flat_at hs i hi j hj
  have hv : xs[i][j]? = some (xs[i][j]'(by omega)) := Array.getElem?_eq_getElem (by omega)
  rw [hv] at hfl ⊢
  have e : o + i * (xs[i]).size + j = o + (i * sz + j) := by rw [hx, Nat.add_assoc]
  rw [e]
  exact h _ _ hfl
theorem foldl_fill : ∀ (l : List Value) (k : Nat) (z : Array Value), (((l.zipIdx k).foldl (fun cs (x : Value × Nat) => cs.setIfInBounds (0 + x.2) x.1) z).size = z.size) ∧
    ∀ i, k + l.length ≤ z.size → ((l.zipIdx k).foldl (fun cs (x : Value × Nat) => cs.setIfInBounds (0 + x.2) x.1) z)[i]? = if k ≤ i ∧ i < k + l.length then l[i - k]? else z[i]?
  | [], k, z => ⟨rfl, fun i _ => by simp; omega⟩
  | v :: l, k, z => by
    obtain ⟨h1, h2⟩ := foldl_fill l (k + 1) (z.setIfInBounds (0 + k) v)
    simp only [List.zipIdx_cons, List.foldl_cons]
    refine ⟨by rw [h1]; simp, fun i hi => ?_⟩
    simp only [List.length_cons] at hi ⊢
    rw [h2 i (by rw [Array.size_setIfInBounds]; omega)]
    by_cases h : k + 1 ≤ i ∧ i < k + 1 + l.length
    · rw [if_pos h, if_pos (by omega)]
      have : i - k = (i - (k + 1)) + 1 := by omega
      rw [this, List.getElem?_cons_succ]
    · rw [if_neg h]
      by_cases hk : i = k
      · subst hk
        rw [if_pos (by omega), Nat.zero_add, Array.getElem?_setIfInBounds_self_of_lt (by omega)]
        simp
      · rw [if_neg (by omega)]
        simp only [Nat.zero_add, Array.getElem?_setIfInBounds]
        rw [if_neg (by omega)]
theorem fill_one (z cs : Array Value) (sz : Nat) (hz : z.size = 1 * sz) (hc : cs.size = sz) : Instr.fill (fun i => some (i * sz, sz)) z [(0, .agg cs)] = some cs := by
  have hf := foldl_fill cs.toList 0 z
  simp only [Instr.fill, Value.cells, Nat.zero_mul]
  split
  · rename_i h
    simp [hc] at h
    omega
  congr 1
  have e : cs.zipIdx.foldl (fun cs (x : Value × Nat) => cs.setIfInBounds (0 + x.2) x.1) z = (cs.toList.zipIdx 0).foldl (fun cs (x : Value × Nat) => cs.setIfInBounds (0 + x.2) x.1) z := by
    rw [← Array.foldl_toList]; simp
  rw [e]
  apply Array.ext_getElem?
  intro i
  rw [hf.2 i (by rw [Array.length_toList]; omega)]
  by_cases h : i < cs.size
  · rw [if_pos (by rw [Array.length_toList]; omega)]; simp
  · rw [if_neg (by rw [Array.length_toList]; omega), Array.getElem?_eq_none (by omega), Array.getElem?_eq_none (by omega)]
def bsS (t : TypeId) (n : Nat) (ps : Array (Nat × Value)) : Sem Value := Instr.buildSlice t n ps
theorem run_bsS_one {P : Program} (w : World) (t elem : TypeId) (i : TypeInfo) (z : Value) (sz : Nat) (hu : P.underlying t = some (.slice elem)) (hi : P.info? elem = some i) (hsz : i.size = sz) (hz : i.zero = some z) (hzs : z.cells.size = sz) (hpos : 0 < sz) (hle : sz ≤ 1000)
    (cs : Array Value) (hc : cs.size = sz) : (bsS t 1 #[(0, .agg cs)]).run P w = .ok (.slice (some ⟨w.heap.size, 0, none⟩) 1 1) (w.alloc (.cells cs elem)) := by
  have hne : ¬ (1 * sz = 0) := by omega
  have hle' : ¬ (1 * sz > 2 ^ 24) := by simp only [Nat.one_mul]; omega
  have hf := fill_one ((Array.range (1 * sz)).map (z.cells[· % z.cells.size]!)) cs sz (by simp) hc
  simp only [Nat.one_mul] at hf hne hle'
  have hle'' : ¬ (16777216 < sz) := by omega
  simp [bsS, Instr.buildSlice, run_underlying hu, sizeOf, typeInfo, hi, hsz, zeroValue, hz, hf, hne, hle'', newRow]
theorem step_append_of_run {P : Program} {ops : Array Oper} {o : Oper} {a : Act} {w : World} {K : Act → World → Prop} {Q : Exit → Act → World → Prop} {E : Prop} (hw : Region.wanted o (yielded ops a.tmps) = true) (s x : Operand) (t : TypeId)
    (ho : o.op = .call { callee := .builtin .append, args := #[s, x], argTypes := #[t, t] }) (v : Value) (w' : World)
    (hrun : (Builtin.append_ #[t, t] o.type #[a.eval s, a.eval x]).run P w = .ok v w') (h : K (a.put o.dst v) w') :
    if Region.wanted o (yielded ops a.tmps) = true then Oper.wp P o a w K Q else E := by
  rw [if_pos hw]
  unfold Oper.wp execOp
  simp only [ho, resolve, invoke, builtin, Sem.run_bind, Sem.run_pure, Result.andThen_ok, List.map_toArray, List.map_cons, List.map_nil, hrun]
  exact h
/-- a new block of one aggregate, as a slice of one -/
theorem Sl.one {w : World} {b o sz L B : Nat} {cs : Array Value} (h : rd w b o sz = some cs) (hL : L ≤ b) (hB : b < B) : Sl w L B sz (some ⟨b, o, none⟩) [cs] := by
  intro _
  refine ⟨b, o, rfl, hL, hB, fun i hi => ?_⟩
  have : i = 0 := by simp at hi; omega
  subst this
  simpa using h
theorem Sl.of_rd {w : World} {g o sz L B : Nat} {xs : List (Array Value)} (hs : Sized sz xs) (h : rd w g o (xs.length * sz) = some (flat xs).toArray) (hL : L ≤ g) (hB : g < B) : Sl w L B sz (some ⟨g, o, none⟩) xs := by
  intro _
  refine ⟨g, o, rfl, hL, hB, fun i hi => ?_⟩
  have hx : (xs[i]).size = sz := hs _ (List.getElem_mem hi)
  have hm : i * sz + sz ≤ xs.length * sz := by
    have : (i + 1) * sz ≤ xs.length * sz := Nat.mul_le_mul_right sz hi
    rw [Nat.add_mul] at this; omega
  rw [rd_part h (i * sz) sz hm]
  congr 1
  apply Array.ext_getElem?
  intro j
  rw [Array.getElem?_extract]
  by_cases hj : j < sz
  · have := flat_at hs i hi j hj
    rw [if_pos (by simp [flat_len hs]; omega)]
    simpa using this
  · rw [if_neg (by simp [flat_len hs]; omega), Array.getElem?_eq_none (by omega)]
theorem cell_wr_other (w : World) (b o : Nat) (cs : Array Value) (p : Addr) (h : p.block ≠ b) : (wr w b o cs).cell? p = w.cell? p := World.cell?_of_block (heap_wr_other b _ _ _ _ h)
theorem run_part_int {P : Program} {e : TypeId} {k : IntKind} (he : P.underlying e = some (.int k)) {xs : Array Value} {off : Nat} {v : Value} (hx : xs[off]? = some v) (w : World) : (part e xs off).run P w = .ok v w := by
  have : (isAgg e).run P w = .ok false w := by
    unfold isAgg
    rw [Sem.run_bind, run_underlying he w]
    rfl
  simp [part, Sem.run_bind, this, hx]
theorem run_equalIn_ints {P : Program} (d : Nat) (t e : TypeId) (n : Nat) (k k' : IntKind) (ht : P.underlying t = some (.array n e)) (he : P.underlying e = some (.int k)) (hc : P.cellsOf e = 1)
    (xs ys : Array Value) (f g : Nat → Int) (hx : ∀ i, i < n → xs[i]? = some (.int k' (f i))) (hy : ∀ i, i < n → ys[i]? = some (.int k' (g i))) (w : World) :
    (Op.equalIn (d + 2) t (.agg xs) (.agg ys)).run P w = .ok ((List.range n).all fun i => f i == g i) w := by
  obtain ⟨ie, hie⟩ := info_of_underlying he
  rw [run_equalIn_array (P := P) w (d + 1) xs ys ht hie]
  have key : ∀ l : List Nat, (∀ i ∈ l, i < n) → (Op.eqItems (d + 1) e (P.cellsOf e) xs ys l).run P w = .ok (l.all fun i => f i == g i) w := by
    intro l
    induction l with
    | nil => intro _; rfl
    | cons i l ih =>
      intro h
      have h1 := run_part_int he (hx i (h i (by simp))) w
      have h2 := run_part_int he (hy i (h i (by simp))) w
      simp only [Op.eqItems, Sem.run_bind, hc, Nat.mul_one, h1, h2, Result.andThen_ok, run_equalIn_int w d e k' k (f i) (g i) he, List.all_cons]
      by_cases hfg : f i = g i
      · simp only [hfg, beq_self_eq_true, Bool.not_true, Bool.false_eq_true, if_false, Bool.true_and]
        have := ih (fun j hj => h j (by simp [hj]))
        rw [hc] at this
        exact this
      · have hb : (f i == g i) = false := by simpa using hfg
        simp [hb]
  exact key (List.range n) (fun i hi => by simpa using hi)
theorem rd_setCell_same (w : World) (b j n : Nat) (v : Value) : rd (w.setCell ⟨b, j, none⟩ v) b 0 n = (rd w b 0 n).map (·.setIfInBounds j v) := by
  unfold rd
  cases hb : w.heap[b]? with
  | none => simp [World.setCell, Array.getElem?_modify, hb]
  | some x =>
    cases x <;> simp [World.setCell, Array.getElem?_modify, hb]
    rename_i c e fr
    split
    · simp only [Option.map_some, Option.some.injEq]
      apply Array.ext_getElem?
      intro i
      simp only [Array.getElem?_extract, Array.getElem?_setIfInBounds, Array.size_extract, Array.size_setIfInBounds]
      by_cases hij : j = i
      · subst hij
        by_cases hj : j < n
        · simp only [Nat.zero_add, if_true]
          rw [if_pos (by omega), if_pos (by omega), if_pos (by omega)]
        · rw [if_neg (by omega), if_pos rfl, if_neg (by omega)]
      · simp only [Nat.zero_add, if_neg hij]
    · rfl
theorem canW_setCell' (w : World) (p : Addr) (v : Value) (b o n : Nat) : canW (w.setCell p v) b o n = canW w b o n := by
  unfold canW
  by_cases h : b = p.block
  · subst h
    cases hb : w.heap[p.block]? with
    | none => simp [World.setCell, Array.getElem?_modify, hb]
    | some x =>
      cases x <;> simp [World.setCell, Array.getElem?_modify, hb]
      split <;> simp
  · rw [Below.heap_setCell w p v b h]
def Ow (w : World) (base : Nat) (e : TypeId) (sz : Nat) (v : Value) (xs : List (Array Value)) : Prop := w.ownsRow base e sz v xs.length (flat xs)
section
variable {w w' : World} {base sz : Nat} {e : TypeId} {v : Value} {xs ys : List (Array Value)}
theorem Ow.nil (w : World) (base : Nat) (e : TypeId) (sz : Nat) : Ow w base e sz (.slice none 0 0) [] := World.ownsRow_nil w base e sz
theorem Ow.form (h : Ow w base e sz v xs) : ∃ A c, v = .slice A xs.length c ∧ xs.length ≤ c ∧ c ≤ maxLen := by
  rcases h.2 with ⟨rfl, h0⟩ | ⟨g, cap, cur, rfl, _, _, h1, h2, _⟩
  · exact ⟨none, 0, by rw [h0], by omega, by unfold maxLen; omega⟩
  · exact ⟨_, cap, rfl, h1, h2⟩
theorem Ow.sl {A : Option Addr} {n c : Nat} (h : Ow w base e sz (.slice A n c) xs) (hs : Sized sz xs) (hsz : 0 < sz) : Sl w base w.heap.size sz A xs := by
  intro hne
  have hpos : 0 < xs.length := List.length_pos_iff.2 hne
  rcases h.2 with ⟨_, h0⟩ | ⟨g, cap, cur, hv, hb, hg, h1, h2, h3, h4⟩
  · omega
  · injection hv with hA
    subst hA
    have hlt : g < w.heap.size := (Array.getElem?_eq_some_iff.1 hg).1
    refine (Sl.of_block (L := base) (B := w.heap.size) (o := 0) hg hb hlt hs (fun j u hu => ?_) hsz) hne
    rw [← h4] at hu
    have hj := (List.getElem?_eq_some_iff.1 hu).1
    rw [List.getElem?_take] at hu
    split at hu
    · simpa using hu
    · cases hu
theorem Ow.kept {row : Option Nat} (h : Ow w base e sz v xs) (hg : w.grownBy w' row) (hne : v.ownBlock = none ∨ v.ownBlock ≠ row) : Ow w' base e sz v xs := World.ownsRow.kept h hg hne
theorem Ow.alloc (h : Ow w base e sz v xs) (o : Obj) : Ow (w.alloc o) base e sz v xs := World.ownsRow.alloc h o
theorem Ow.drew (h : Ow w base e sz v xs) : Ow w.drew base e sz v xs := h
theorem Ow.below {B : Nat} (h : Ow w base e sz v xs) (hb : Below B w w') (hB : ∀ g, v.ownBlock = some g → g < B) : Ow w' base e sz v xs := by
  refine ⟨h.1, ?_⟩
  rcases h.2 with h0 | ⟨g, cap, cur, rfl, h1, h2, h3⟩
  · exact .inl h0
  · exact .inr ⟨g, cap, cur, rfl, h1, (hb.block g (hB g rfl)).trans h2, h3⟩
theorem Ow.lt (h : Ow w base e sz v xs) : ∀ g, v.ownBlock = some g → base ≤ g ∧ g < w.heap.size := World.ownsRow.lt h
theorem Ow.setCell (h : Ow w base e sz v xs) {p : Addr} (hp : p.block < base) (u : Value) : Ow (w.setCell p u) base e sz v xs := by
  refine ⟨h.1, ?_⟩
  rcases h.2 with h0 | ⟨g, cap, cur, rfl, h1, h2, h3⟩
  · exact .inl h0
  · exact .inr ⟨g, cap, cur, rfl, h1, (Below.heap_setCell w p u g (by omega)).trans h2, h3⟩
end
theorem run_append_nil_src {P : Program} (w : World) (base : Nat) (t ty e : TypeId) (i : TypeInfo) (size : Nat) (ht : P.underlying t = some (.slice e)) (hi : P.info? e = some i)
    (v : Value) (n : Nat) (xs : List Value) (hown : w.ownsRow base e size v n xs) (c : Nat) : (Builtin.append_ #[t, t] ty #[v, .slice none 0 c]).run P w = .ok v w := by
  rcases hown.2 with ⟨rfl, rfl⟩ | ⟨g, cap, cur, rfl, _, _, hnc, _⟩
  · simp [Builtin.append_, run_underlying ht, sizeOf, typeInfo, hi, Builtin.lenOf, Builtin.firstCells]
  · simp [Builtin.append_, run_underlying ht, sizeOf, typeInfo, hi, Builtin.lenOf, Builtin.firstCells, hnc, storeCells]
/-- APPEND onto a row of the call's own: what comes, and in which world. -/
theorem run_append_ow {P : Program} (w : World) (base : Nat) (t ty e : TypeId) (i : TypeInfo) (z : Value) (size bytes : Nat) (ht : P.underlying t = some (.slice e)) (hi : P.info? e = some i) (hz : i.zero = some z)
    (hsize : i.size = size) (hby : i.bytes = bytes) (hzs : z.cells.size = size) (hsz : 0 < size)
    (v : Value) (xs : List (Array Value)) (hown : Ow w base e size v xs) (L B : Nat) (A : Option Addr) (m c : Nat) (ys : List (Array Value)) (hy : Sl w L B size A ys) (hs : Sized size ys) (h1 : Ones ys) (hm : ys.length = m)
    (h63 : xs.length + m ≤ maxLen) (hbytes : (xs.length + m) * bytes ≤ 140737488355328) (hbase : base ≤ w.heap.size) :
    ∃ A' c' w', (Builtin.append_ #[t, t] ty #[v, .slice A m c]).run P w = .ok (.slice A' (xs.length + m) c') w' ∧ Ow w' base e size (.slice A' (xs.length + m) c') (xs ++ ys) ∧ w.grownBy w' v.ownBlock ∧ xs.length + m ≤ c' := by
  subst hm
  have fin : ∀ (v' : Value) (w' : World), (Builtin.append_ #[t, t] ty #[v, .slice A ys.length c]).run P w = .ok v' w' → w'.ownsRow base e size v' (xs.length + ys.length) (flat xs ++ flat ys) → w.grownBy w' v.ownBlock →
      ∃ A' c' w', (Builtin.append_ #[t, t] ty #[v, .slice A ys.length c]).run P w = .ok (.slice A' (xs.length + ys.length) c') w' ∧ Ow w' base e size (.slice A' (xs.length + ys.length) c') (xs ++ ys) ∧ w.grownBy w' v.ownBlock ∧ xs.length + ys.length ≤ c' := by
    intro v' w' hrun ho hg
    have ho' : Ow w' base e size v' (xs ++ ys) := by unfold Ow; rw [flat_append, List.length_append]; exact ho
    obtain ⟨A', c', hv, hc, _⟩ := ho'.form
    rw [List.length_append] at hv hc
    rw [hv] at hrun ho'
    exact ⟨A', c', w', hrun, ho', hg, hc⟩
  rcases A with _ | ad
  · have hn : ys = [] := by
      rcases List.eq_nil_or_concat ys with h0 | ⟨_, _, h0⟩
      · exact h0
      · obtain ⟨b, o, e', _⟩ := hy (by rw [h0]; simp)
        cases e'
    subst hn
    exact fin v w (run_append_nil_src w base t ty e i size ht hi v _ _ hown c) (by simpa [flat, Ow] using hown) (World.grownBy.refl w _)
  · have hcells : ∀ j u, (flat ys)[j]? = some u → w.cell? (ad.add j) = some u := by
      intro j u hu
      by_cases hne : ys = []
      · subst hne; simp [flat] at hu
      · obtain ⟨b, o, e', _, _, hc⟩ := hy.flat_cells hs hne
        injection e' with e'
        subst e'
        rw [Addr.add_mid]
        exact hc j u hu
    obtain ⟨v', w', hrun, h2, h3, _, _⟩ := run_append_own_at (P := P) w base t ty e i z size bytes ht hi hz hsize hby hzs hsz v xs.length (flat xs) hown ad ys.length c (flat ys) (flat_len hs) hcells h1.flat_all h63 hbytes hbase
    exact fin v' w' hrun h2 h3
theorem run_bsS_zero {P : Program} (w : World) (t elem : TypeId) (i : TypeInfo) (hu : P.underlying t = some (.slice elem)) (hi : P.info? elem = some i) :
    (bsS t 0 #[]).run P w = .ok (.slice (some ⟨w.heap.size, 0, none⟩) 0 0) (w.alloc (.cells #[] elem)) := by
  simp [bsS, Instr.buildSlice, run_underlying hu, sizeOf, typeInfo, hi, Instr.fill, newRow]
  congr 2
  apply Array.eq_empty_of_size_eq_zero
  simp
theorem Ow.empty (w : World) (e : TypeId) (sz : Nat) : Ow (w.alloc (.cells #[] e)) w.heap.size e sz (.slice (some ⟨w.heap.size, 0, none⟩) 0 0) [] :=
  ⟨by simp [flat], .inr ⟨w.heap.size, 0, #[], rfl, Nat.le_refl _, heap_alloc_new w _, Nat.le_refl _, by unfold maxLen; omega, by simp, by simp [flat]⟩⟩
theorem below_grown {B : Nat} {a w w' : World} {row : Option Nat} (h : Below B a w) (hg : w.grownBy w' row) (hB : B ≤ w.heap.size) (hr : ∀ k, row = some k → B ≤ k) : Below B a w' := h.grown hg hB hr
/-- the same, whatever comes: the slot is looked at first -/
theorem step_append_ex {P : Program} {ops : Array Oper} {o : Oper} {a : Act} {w : World} {K : Act → World → Prop} {Q : Exit → Act → World → Prop} {E : Prop} (s x : Operand) (t : TypeId)
    (ho : o.op = .call { callee := .builtin .append, args := #[s, x], argTypes := #[t, t] }) (hw : Region.wanted o (yielded ops a.tmps) = true)
    (h : ∃ v w', (Builtin.append_ #[t, t] o.type #[a.eval s, a.eval x]).run P w = .ok v w' ∧ K (a.put o.dst v) w') :
    if Region.wanted o (yielded ops a.tmps) = true then Oper.wp P o a w K Q else E := by
  obtain ⟨v, w', hrun, h⟩ := h
  exact step_append_of_run hw s x t ho v w' hrun h
end Go.Proofs.Ytodbmgafejclmaa.Base
namespace Go.Proofs.Ytodbmgafejclmaa.Base
set_option linter.unusedSimpArgs false
set_option linter.unusedVariables false
open Go.RowKit
structure Ent where
  k : Int
  l : Int
  s : Int
  d : Fin 16 → Int
theorem Ent.ext_iff' (e f : Ent) : (e.k = f.k ∧ e.l = f.l ∧ e.s = f.s ∧ ∀ i, e.d i = f.d i) ↔ e = f := by
  constructor
  · rintro ⟨h1, h2, h3, h4⟩
    cases e; cases f
    simp only at h1 h2 h3 h4
    subst h1 h2 h3
    congr 1
    exact funext h4
  · rintro rfl; exact ⟨rfl, rfl, rfl, fun _ => rfl⟩
instance : DecidableEq Ent := fun e f => decidable_of_iff _ (Ent.ext_iff' e f)
def Ent.data (e : Ent) : List Value := List.ofFn fun i => Value.int .u8 (e.d i)
def Ent.cells (e : Ent) : List Value := Value.int .i64 e.k :: .int .i64 e.l :: .int .i64 e.s :: e.data
def Ent.arr (e : Ent) : Array Value := e.cells.toArray
def Ent.zero : Ent := ⟨0, 0, 0, fun _ => 0⟩
theorem Ent.cells_len (e : Ent) : e.cells.length = 19 := by simp [Ent.cells, Ent.data]
theorem Ent.arr_size (e : Ent) : e.arr.size = 19 := by simp [Ent.arr, Ent.cells_len]
theorem Ent.arr0 (e : Ent) : e.arr[0]? = some (.int .i64 e.k) := rfl
theorem Ent.arr1 (e : Ent) : e.arr[1]? = some (.int .i64 e.l) := rfl
theorem Ent.arr2 (e : Ent) : e.arr[2]? = some (.int .i64 e.s) := rfl
theorem Ent.set1 (e : Ent) (n : Int) : e.arr.setIfInBounds 1 (.int .i64 n) = ({ e with l := n } : Ent).arr := rfl
theorem Ent.set2 (e : Ent) (n : Int) : e.arr.setIfInBounds 2 (.int .i64 n) = ({ e with s := n } : Ent).arr := rfl
theorem Ent.one (e : Ent) : e.arr.all (·.oneCell') = true := by
  rw [Array.all_eq_true_iff_forall_mem]
  intro v hv
  simp only [Ent.arr, Ent.cells, Ent.data, List.mem_toArray, List.mem_cons, List.mem_ofFn] at hv
  rcases hv with rfl | rfl | rfl | ⟨i, rfl⟩ <;> rfl
theorem Ent.one' (e : Ent) : ∀ v ∈ e.cells, v.oneCell' = true := by
  have := e.one
  rw [Array.all_eq_true_iff_forall_mem] at this
  intro v hv
  exact this v (by simpa [Ent.arr] using hv)
/-- a literal with noughts for its bytes -/
theorem Ent.lit (k l s : Int) : (#[.int .i64 k, .int .i64 l, .int .i64 s, .int .u8 0, .int .u8 0, .int .u8 0, .int .u8 0, .int .u8 0, .int .u8 0, .int .u8 0, .int .u8 0, .int .u8 0, .int .u8 0, .int .u8 0, .int .u8 0, .int .u8 0, .int .u8 0, .int .u8 0, .int .u8 0] : Array Value) = (⟨k, l, s, fun _ => 0⟩ : Ent).arr := rfl
theorem Ent.okW (e : Ent) : okW e.arr 19 = true := by
  unfold Proofs.Ytodbmgafejclmaa.Base.okW
  rw [e.one, e.arr_size]
  rfl
theorem Ent.sized (es : List Ent) : Sized 19 (es.map Ent.arr) := by
  intro x hx
  obtain ⟨e, _, rfl⟩ := List.mem_map.1 hx
  exact e.arr_size
theorem Ent.ones (es : List Ent) : Ones (es.map Ent.arr) := by
  intro x hx v hv
  obtain ⟨e, _, rfl⟩ := List.mem_map.1 hx
  exact e.one' v (by simpa [Ent.arr] using hv)
theorem ldV_ent (a : Addr) : loadVar 54 a = ldV 54 a := rfl
theorem stV_ent (a : Addr) (v : Value) : storeVar 54 a v = stV 54 a v := rfl
set_option maxRecDepth 100000 in
theorem info_ent : (Try.prog.info? 54).map (·.size) = some 19 := by kernel_rfl
set_option maxRecDepth 100000 in
theorem run_ldV_ent (w : World) (b o : Nat) : (ldV 54 ⟨b, o, none⟩).run Try.prog w = ldR Try.prog 54 ⟨b, o, none⟩ (rd w b o 19) w :=
  run_ldV Try.prog 54 19 _ Try.underlying54 rfl info_ent w b o
set_option maxRecDepth 100000 in
theorem run_stV_ent (w : World) (b o : Nat) (cs : Array Value) : (stV 54 ⟨b, o, none⟩ (.agg cs)).run Try.prog w =
    stR Try.prog 54 ⟨b, o, none⟩ (canW w b o 19 && okW cs 19) (.agg cs) w (wr w b o cs) :=
  run_stV Try.prog 54 19 info_ent w b o cs
set_option maxRecDepth 100000 in
theorem info_ent3 : (Try.prog.info? 54).map (fun i => (i.zero, i.size, i.bytes)) = some (some (.agg Ent.zero.arr), 19, 40) := by kernel_rfl
theorem bsS_ent (n : Nat) (ps : Array (Nat × Value)) : Instr.buildSlice 22 n ps = bsS 22 n ps := rfl
theorem run_bsS_ent (w : World) (e : Ent) : (bsS 22 1 #[(0, .agg e.arr)]).run Try.prog w = .ok (.slice (some ⟨w.heap.size, 0, none⟩) 1 1) (w.alloc (.cells e.arr 54)) := by
  obtain ⟨i0, hi0, hz0, hz1, hz2⟩ := info_parts info_ent3
  exact run_bsS_one w _ _ i0 _ 19 Try.underlying22 hi0 hz1 hz0 (by simp [Value.cells, Ent.arr_size]) (by omega) (by omega) e.arr e.arr_size
set_option maxRecDepth 100000 in
theorem run_equalIn_data (d : Nat) (e f : Ent) (w : World) : (Op.equalIn (d + 2) 52 (.agg e.data.toArray) (.agg f.data.toArray)).run Try.prog w = .ok (decide (∀ i, e.d i = f.d i)) w := by
  have hx : ∀ (e : Ent) (i : Nat), i < 16 → e.data.toArray[i]? = some (.int .u8 ((fun j => if h : j < 16 then e.d ⟨j, h⟩ else 0) i)) := by
    intro e i hi
    simp only [Ent.data, List.getElem?_toArray, List.getElem?_ofFn, hi, dite_true]
  have := run_equalIn_ints (P := Try.prog) d 52 5 16 _ .u8 Try.underlying52 Try.underlying5 (by kernel_rfl) _ _ _ _ (hx e) (hx f) w
  rw [this]
  congr 1
  rw [Bool.eq_iff_iff, List.all_eq_true, decide_eq_true_iff]
  constructor
  · intro h i
    have := h i.1 (by simp [i.2])
    simpa [i.2] using this
  · intro h i hi
    have hi' : i < 16 := by simpa using hi
    simp [hi', h ⟨i, hi'⟩]
def eqI (t : TypeId) (x y : Value) : Sem Bool := Op.equalIn 10000 t x y
theorem eqI_ent (x y : Value) : Op.equalIn 10000 54 x y = eqI 54 x y := rfl
set_option maxRecDepth 100000 in
theorem run_eqI_ent (e f : Ent) (w : World) : (eqI 54 (.agg e.arr) (.agg f.arr)).run Try.prog w = .ok (decide (e = f)) w := by
  unfold eqI
  rw [run_equalIn_struct (P := Try.prog) w 9999 54 _ _ (by kernel_rfl) (by kernel_rfl)]
  simp only [Program.fieldsOf, Try.underlying54]
  have hisa : ∀ w, (isAgg 52).run Try.prog w = .ok true w := fun w => by
    unfold isAgg
    rw [Sem.run_bind, run_underlying Try.underlying52 w]
    rfl
  have hsz : ∀ w, (sizeOf 52).run Try.prog w = .ok 16 w := fun w => by
    have : (Try.prog.info? 52).map (·.size) = some 16 := by kernel_rfl
    cases hq : Try.prog.info? 52 with
    | none => simp [hq] at this
    | some i => simp [sizeOf, typeInfo, hq]; simpa [hq] using this
  have hp : ∀ (e : Ent) w, (part 52 e.arr 3).run Try.prog w = .ok (.agg e.data.toArray) w := fun e w => by
    simp only [part, Sem.run_bind, hisa, hsz, Result.andThen_ok, if_true, Sem.run_pure]
    congr 2
  have p0 := fun (e : Ent) => run_part_int Try.underlying3 e.arr0 w
  have p1 := fun (e : Ent) => run_part_int Try.underlying3 e.arr1 w
  have p2 := fun (e : Ent) => run_part_int Try.underlying3 e.arr2 w
  have hd : (decide (e = f)) = (e.k == f.k && (e.l == f.l && (e.s == f.s && decide (∀ i, e.d i = f.d i)))) := by
    rw [Bool.eq_iff_iff]
    simp only [decide_eq_true_iff, Bool.and_eq_true, beq_iff_eq]
    exact (Ent.ext_iff' e f).symm
  rw [hd]
  have i0 : ∀ (a b : Int) w, (Op.equalIn 9999 3 (.int .i64 a) (.int .i64 b)).run Try.prog w = .ok (a == b) w := fun a b w => run_equalIn_int w 9998 3 .i64 .i64 a b Try.underlying3
  have id : (Op.equalIn 9999 52 (.agg e.data.toArray) (.agg f.data.toArray)).run Try.prog w = .ok (decide (∀ i, e.d i = f.d i)) w := run_equalIn_data 9997 e f w
  simp only [Op.eqFields, Sem.run_bind, p0, p1, p2, hp, Result.andThen_ok, i0, id]
  by_cases h0 : e.k = f.k <;> by_cases h1 : e.l = f.l <;> by_cases h2 : e.s = f.s <;> by_cases h3 : (∀ i, e.d i = f.d i) <;> simp [h0, h1, h2, h3, p0, p1, p2, hp, i0, id]
theorem run_bsS_ent0 (w : World) : (bsS 22 0 #[]).run Try.prog w = .ok (.slice (some ⟨w.heap.size, 0, none⟩) 0 0) (w.alloc (.cells #[] 54)) := by
  obtain ⟨i0, hi0, hz0, hz1, hz2⟩ := info_parts info_ent3
  exact run_bsS_zero w _ _ i0 Try.underlying22 hi0
/-- append onto a row of updates that the call owns -/
theorem run_append_ents (w : World) (base n : Nat) (v : Value) (es fs : List Ent) (hown : Ow w base 54 19 v (es.map Ent.arr)) (hn : es.length = n) (L B : Nat) (A : Option Addr) (m c : Nat) (hy : Sl w L B 19 A (fs.map Ent.arr)) (hm : fs.length = m)
    (hsm : n + m ≤ 1000000) (hbase : base ≤ w.heap.size) (ty : TypeId) :
    ∃ A' c' w', (Builtin.append_ #[22, 22] ty #[v, .slice A m c]).run Try.prog w = .ok (.slice A' (n + m) c') w' ∧ Ow w' base 54 19 (.slice A' (n + m) c') ((es ++ fs).map Ent.arr) ∧ w.grownBy w' v.ownBlock ∧ n + m ≤ c' := by
  obtain ⟨i0, hi0, hz0, hz1, hz2⟩ := info_parts info_ent3
  obtain ⟨A', c', w', h1, h2, h3, h4⟩ := run_append_ow (P := Try.prog) w base 22 ty 54 i0 _ 19 40 Try.underlying22 hi0 hz0 hz1 hz2 (by simp [Value.cells, Ent.arr_size]) (by omega) v (es.map Ent.arr) hown L B A m c (fs.map Ent.arr) hy
    (Ent.sized fs) (Ent.ones fs) (by simpa using hm) (by rw [List.length_map, hn]; unfold maxLen; omega) (by rw [List.length_map, hn]; omega) hbase
  rw [List.length_map, hn] at h1 h2 h4
  exact ⟨A', c', w', h1, by rw [List.map_append]; exact h2, h3, h4⟩
end Go.Proofs.Ytodbmgafejclmaa.Base
namespace Go.Proofs.Ytodbmgafejclmaa.Base
open Go.RowKit
set_option linter.unusedSimpArgs false
set_option linter.unusedVariables false
def I64 (n : Int) : Prop := -9223372036854775808 ≤ n ∧ n ≤ 9223372036854775807
def By (bs : List Int) : List (Array Value) := bs.map fun b => #[Value.int .u8 b]
theorem By.sized (bs : List Int) : Sized 1 (By bs) := by
  intro x hx
  obtain ⟨b, _, rfl⟩ := List.mem_map.1 hx
  rfl
theorem By.ones (bs : List Int) : Ones (By bs) := by
  intro x hx v hv
  obtain ⟨b, _, rfl⟩ := List.mem_map.1 hx
  simp only [List.mem_cons, List.not_mem_nil, or_false] at hv
  subst hv
  rfl
theorem By.len (bs : List Int) : (By bs).length = bs.length := by simp [By]
theorem By.app (bs cs : List Int) : By (bs ++ cs) = By bs ++ By cs := by simp [By]
theorem By.one (b : Int) : By [b] = [#[Value.int .u8 b]] := rfl
theorem info_u8 : (Try.prog.info? 5).map (fun i => (i.zero, i.size, i.bytes)) = some (some (.int .u8 0), 1, 1) := by kernel_rfl
/-- append onto bytes that the call owns -/
theorem run_append_by (w : World) (base n : Nat) (v : Value) (bs cs : List Int) (hown : Ow w base 5 1 v (By bs)) (hn : bs.length = n) (L B : Nat) (A : Option Addr) (m c : Nat) (hy : Sl w L B 1 A (By cs)) (hm : cs.length = m)
    (hsm : n + m ≤ 1000000) (hbase : base ≤ w.heap.size) (ty : TypeId) :
    ∃ A' c' w', (Builtin.append_ #[24, 24] ty #[v, .slice A m c]).run Try.prog w = .ok (.slice A' (n + m) c') w' ∧ Ow w' base 5 1 (.slice A' (n + m) c') (By (bs ++ cs)) ∧ w.grownBy w' v.ownBlock ∧ n + m ≤ c' := by
  obtain ⟨i0, hi0, hz0, hz1, hz2⟩ := info_parts info_u8
  obtain ⟨A', c', w', h1, h2, h3, h4⟩ := run_append_ow (P := Try.prog) w base 24 ty 5 i0 _ 1 1 Try.underlying24 hi0 hz0 hz1 hz2 rfl (by omega) v (By bs) hown L B A m c (By cs) hy
    (By.sized cs) (By.ones cs) (by rw [By.len]; exact hm) (by rw [By.len, hn]; unfold maxLen; omega) (by rw [By.len, hn]; omega) hbase
  rw [By.len, hn] at h1 h2 h4
  exact ⟨A', c', w', h1, by rw [By.app]; exact h2, h3, h4⟩
/-- a new cell is a row of one -/
theorem sl_new (w : World) (b : Int) : Sl (w.alloc (.cells #[.int .u8 b] 5)) w.heap.size (w.heap.size + 1) 1 (some ⟨w.heap.size, 0, none⟩) (By [b]) :=
  Sl.one (rd_new_whole _ _ _ _ _ _ rfl rfl) (Nat.le_refl _) (Nat.lt_succ_self _)
/-- what is run, in just this world -/
theorem app_ex {P : Program} {X X' : Sem Value} {W w1 : World} {v : Value} {K : Value → World → Prop} (hrun : X'.run P W = .ok v w1) (hX : X = X') (h : K v w1) : ∃ v w', X.run P W = .ok v w' ∧ K v w' :=
  ⟨v, w1, hX ▸ hrun, h⟩
theorem Ow.less {w : World} {base base' : Nat} {e : TypeId} {sz : Nat} {v : Value} {xs : List (Array Value)} (h : Ow w base e sz v xs) (hb : base' ≤ base) : Ow w base' e sz v xs := by
  refine ⟨h.1, ?_⟩
  rcases h.2 with h0 | ⟨g, cap, cur, rfl, h1, h2, h3⟩
  · exact .inl h0
  · exact .inr ⟨g, cap, cur, rfl, by omega, h2, h3⟩
/-- the byte at place i of a number, the lowest one first -/
def byteI (n : Int) (i : Nat) : Int := IntKind.u64.wrap n / 2 ^ (8 * i) % 256
def leI (n : Int) (k : Nat) : List Int := (List.range k).map (byteI n)
theorem leI_len (n : Int) (k : Nat) : (leI n k).length = k := by simp [leI]
theorem leI_succ (n : Int) (k : Nat) : leI n (k + 1) = leI n k ++ [byteI n k] := by simp [leI, List.range_succ]
set_option maxRecDepth 100000 in
theorem rbyte_any (bs : List Int) (n : Int) (w : World) (hn : I64 n) (hs : bs.length ≤ 1000) (base : Nat) (hbase : base ≤ w.heap.size) (A : Option Addr) (l c : Nat) (hl : bs.length = l) (ho : Ow w base 5 1 (.slice A l c) (By bs)) :
    Calls Try.prog 38 #[.slice A l c, .int .i64 n] w fun e w' =>
      (∃ A' c', e = .returned (.slice A' (l + 1) c') ∧ l + 1 ≤ c' ∧ Ow w' base 5 1 (.slice A' (l + 1) c') (By (bs ++ [n % 256]))) ∧ Below base w w' := by
  unfold I64 at hn
  obtain ⟨A3, c3, w3, hrun3, ho3, hg3, hc3⟩ := run_append_by (w.alloc (.cells #[.int .u8 (n % 256)] 5)) base l (.slice A l c) bs [n % 256] (ho.alloc _) hl w.heap.size (w.heap.size + 1) (some ⟨w.heap.size, 0, none⟩) 1 1 (sl_new w _) rfl (by omega) (by simp; omega) 24
  have b3 : Below base w w3 := below_grown ((Below.refl base w).alloc hbase _) hg3 (by simp; omega) (fun k e => ((ho.alloc (.cells #[.int .u8 (n % 256)] 5)).lt k e).1)
  clear hg3
  replace hl := hide hl
  go_enter Try.func38, Try.ntmps38
  go_wp2_with (at_builtin; refine wpList_step (fun K hK => step_append_ex (o := ⟨some 9, _, _, _, _, _⟩) (.tmp 5) (.tmp 8) 24 rfl (by rfl) ⟨_, _, hrun3, hK _ _ ?_⟩))
  go_ret
  exact ⟨⟨A3, c3, rfl, hc3, ho3⟩, b3⟩
set_option maxRecDepth 100000 in
theorem rint_any (bs : List Int) (n : Int) (w : World) (hn : I64 n) (hs : bs.length ≤ 1000) (base : Nat) (hbase : base ≤ w.heap.size) (A : Option Addr) (l c : Nat) (hl : bs.length = l) (hc0 : l ≤ c) (ho : Ow w base 5 1 (.slice A l c) (By bs)) :
    Calls Try.prog 37 #[.slice A l c, .int .i64 n] w fun e w' =>
      (∃ A' c', e = .returned (.slice A' (l + 8) c') ∧ l + 8 ≤ c' ∧ Ow w' base 5 1 (.slice A' (l + 8) c') (By (bs ++ leI n 8))) ∧ Below base w w' := by
  unfold I64 at hn
  replace hl := hide hl
  go_enter Try.func37, Try.ntmps37
  go_wp2_with fail
  go_loopw [0, 5] (fun s0 s5 wr => ∃ (j : Nat) (A2 : Option Addr) (c2 : Nat), j ≤ 8 ∧ s5 = .int .i64 j ∧ s0 = .slice A2 (l + j) c2 ∧ l + j ≤ c2 ∧ Ow wr base 5 1 (.slice A2 (l + j) c2) (By (bs ++ leI n j)) ∧ Below base w wr) (fun _ s5 _ => 8 - (intOf s5).toNat)
  case atStart => exact ⟨0, A, c, Nat.zero_le _, rfl, rfl, hc0, by simpa [leI] using ho, Below.refl _ _⟩
  case round =>
    obtain ⟨j, A2, c2, hj, rfl, rfl, hc2, ho2, b2⟩ := hrel
    by_cases hjk : j < 8
    · have hjI : (j : Int) < 8 := by omega
      have hj0 : (0 : Int) ≤ (j : Int) := by omega
      have hbI : IntKind.u64.wrap n / 2 ^ (8 * j) % 256 = byteI n j := rfl
      have hbz := b2.size
      obtain ⟨A3, c3, w3, hrun3, ho3, hg3, hc3⟩ := run_append_by (wr.alloc (.cells #[.int .u8 (byteI n j)] 5)) base (l + j) (.slice A2 (l + j) c2) (bs ++ leI n j) [byteI n j] (ho2.alloc _) (by rw [List.length_append, leI_len, unhide hl]) wr.heap.size (wr.heap.size + 1) (some ⟨wr.heap.size, 0, none⟩) 1 1 (sl_new wr _) rfl (by have := unhide hl; omega) (by simp; omega) 24
      have b3 : Below base w w3 := below_grown (b2.alloc (by omega) _) hg3 (by simp; omega) (fun k e => ((ho2.alloc (.cells #[.int .u8 (byteI n j)] 5)).lt k e).1)
      rw [List.append_assoc, ← leI_succ] at ho3
      clear hg3 ho2 b2
      go_wp2_with (at_builtin; refine wpList_step (fun K hK => step_append_ex (o := ⟨some 19, _, _, _, _, _⟩) (.tmp 10) (.tmp 18) 24 rfl (by rfl) ⟨_, _, hrun3, hK _ _ ?_⟩))
      go_roundw
      case rel => exact ⟨j + 1, A3, c3, by omega, by go_num, rfl, hc3, ho3, b3⟩
      case measure => simp [intOf]; omega
    · obtain rfl : j = 8 := by omega
      go_wp2_with fail
      go_ret
      exact ⟨⟨A2, c2, rfl, hc2, ho2⟩, b2⟩
end Go.Proofs.Ytodbmgafejclmaa.Base
namespace Go.Proofs.Ytodbmgafejclmaa.Base
open Go.RowKit
set_option linter.unusedSimpArgs false
set_option linter.unusedVariables false
attribute [local go_sem] Ent.arr0 Ent.arr1 Ent.arr2 Ent.set1 Ent.set2 Ent.arr_size Ent.okW Ent.lit run_ldV_ent run_stV_ent ldR_some stR_true rd_new_whole rd_alloc canW_new canW_alloc wr_new wr_alloc rd_drew rd_drewN canW_drew canW_drewN run_bsS_ent run_bsS_ent0 run_eqI_ent rd_setCell rd_setCell_same canW_setCell' Option.map_some cell_wr_other rd_wr_same rd_wr_other
attribute [local go_sem ↓] ldV_ent stV_ent bsS_ent eqI_ent
theorem ldV_dat (a : Addr) : loadVar 52 a = ldV 52 a := rfl
set_option maxRecDepth 100000 in
theorem info_dat : (Try.prog.info? 52).map (·.size) = some 16 := by kernel_rfl
theorem run_ldV_dat (w : World) (b o : Nat) : (ldV 52 ⟨b, o, none⟩).run Try.prog w = ldR Try.prog 52 ⟨b, o, none⟩ (rd w b o 16) w :=
  run_ldV Try.prog 52 16 _ Try.underlying52 rfl info_dat w b o
theorem Ent.ext3 (e : Ent) : e.arr.extract 3 19 = e.data.toArray := rfl
/-- the data of the box of a slot -/
theorem rd_dat (w : World) (e : Ent) (b : Nat) (h : b = w.heap.size) : rd (w.alloc (.cells e.arr 54)) b 3 16 = some e.data.toArray := by
  rw [rd_new _ _ _ _ _ _ _ h (by rw [Ent.arr_size]; omega), Ent.ext3]
theorem eqI_dat (x y : Value) : Op.equalIn 10000 52 x y = eqI 52 x y := rfl
theorem run_eqI_dat (e f : Ent) (w : World) : (eqI 52 (.agg e.data.toArray) (.agg f.data.toArray)).run Try.prog w = .ok (decide (∀ i, e.d i = f.d i)) w := run_equalIn_data 9998 e f w
theorem dat_lit : (#[.int .u8 0, .int .u8 0, .int .u8 0, .int .u8 0, .int .u8 0, .int .u8 0, .int .u8 0, .int .u8 0, .int .u8 0, .int .u8 0, .int .u8 0, .int .u8 0, .int .u8 0, .int .u8 0, .int .u8 0, .int .u8 0] : Array Value) = Ent.zero.data.toArray := rfl
theorem Ent.arr0g (e : Ent) (h : 0 < e.arr.size) : e.arr[0] = .int .i64 e.k := rfl
theorem Ent.arr1g (e : Ent) (h : 1 < e.arr.size) : e.arr[1] = .int .i64 e.l := rfl
theorem Ent.arr2g (e : Ent) (h : 2 < e.arr.size) : e.arr[2] = .int .i64 e.s := rfl
attribute [local go_sem] Ent.arr0g Ent.arr1g Ent.arr2g run_ldV_dat rd_dat run_eqI_dat dat_lit
attribute [local go_sem ↓] ldV_dat eqI_dat
set_option maxRecDepth 100000 in
theorem has_any (a b n : Int) (w : World) : Calls Try.prog 65 #[.agg #[.int .i64 a, .int .i64 b], .int .i64 n] w fun e w' => e = .returned (.bool (decide (a ≤ n) && decide (n ≤ b))) ∧ w.alloc (.cells #[.int .i64 a, .int .i64 b] 118) = w' := by
  by_cases h1 : a ≤ n
  · by_cases h2 : n ≤ b
    · go_enter Try.func65, Try.ntmps65
      go_wp2_with fail
      go_ret
      exact ⟨by simp [h1, h2], rfl⟩
    · go_enter Try.func65, Try.ntmps65
      go_wp2_with fail
      go_ret
      exact ⟨by simp [h1, h2], rfl⟩
  · have hd : Hid (decide (a ≤ n) = false) := hide (decide_eq_false h1)
    go_enter Try.func65, Try.ntmps65
    go_wp2_with fail
    go_ret
    exact ⟨by rw [unhide hd]; rfl, rfl⟩
/-- may a slot be? -/
def OkE (e : Ent) : Prop := 0 ≤ e.k ∧ e.k ≤ 3 ∧ (if e.k = 1 ∨ e.k = 2 then 0 ≤ e.l ∧ e.l ≤ 65536 ∧ 1 ≤ e.s ∧ e.s ≤ 1099511627776 else e.l = 0 ∧ e.s = 0) ∧ (e.k ≠ 1 → ∀ i, e.d i = 0)
instance (e : Ent) : Decidable (OkE e) := by unfold OkE; exact inferInstance
def chkE (e : Ent) : Int := if OkE e then 0 else 1
theorem chk_yes {e : Ent} (h : OkE e) : chkE e = 0 := if_pos h
theorem chk_no {e : Ent} (h : ¬ OkE e) : chkE e = 1 := if_neg h
theorem has_t (a b n : Int) (w : World) (h : a ≤ n ∧ n ≤ b) : Calls Try.prog 65 #[.agg #[.int .i64 a, .int .i64 b], .int .i64 n] w fun e w' => e = .returned (.bool true) ∧ w.alloc (.cells #[.int .i64 a, .int .i64 b] 118) = w' := by
  have := has_any a b n w
  rw [decide_eq_true h.1, decide_eq_true h.2] at this
  exact this
theorem has_f (a b n : Int) (w : World) (h : ¬ (a ≤ n ∧ n ≤ b)) : Calls Try.prog 65 #[.agg #[.int .i64 a, .int .i64 b], .int .i64 n] w fun e w' => e = .returned (.bool false) ∧ w.alloc (.cells #[.int .i64 a, .int .i64 b] 118) = w' := by
  have := has_any a b n w
  rw [show (decide (a ≤ n) && decide (n ≤ b)) = false from by rw [Bool.and_eq_false_iff]; simp only [decide_eq_false_iff_not]; omega] at this
  exact this
/-- the ways of a slot -/
theorem cases_e (e : Ent) : (e.k < 0 ∧ ¬ e.k = 1 ∧ ¬ e.k = 2) ∨ (3 < e.k ∧ ¬ e.k = 1 ∧ ¬ e.k = 2) ∨
    (e.k = 1 ∧ ¬ (0 ≤ e.l ∧ e.l ≤ 65536)) ∨ (e.k = 1 ∧ (0 ≤ e.l ∧ e.l ≤ 65536) ∧ ¬ (1 ≤ e.s ∧ e.s ≤ 1099511627776)) ∨ (e.k = 1 ∧ (0 ≤ e.l ∧ e.l ≤ 65536) ∧ (1 ≤ e.s ∧ e.s ≤ 1099511627776)) ∨
    (e.k = 2 ∧ ¬ (0 ≤ e.l ∧ e.l ≤ 65536)) ∨ (e.k = 2 ∧ (0 ≤ e.l ∧ e.l ≤ 65536) ∧ ¬ (1 ≤ e.s ∧ e.s ≤ 1099511627776)) ∨ (e.k = 2 ∧ (0 ≤ e.l ∧ e.l ≤ 65536) ∧ (1 ≤ e.s ∧ e.s ≤ 1099511627776) ∧ decide (∀ i, e.d i = Ent.zero.d i) = false) ∨ (e.k = 2 ∧ (0 ≤ e.l ∧ e.l ≤ 65536) ∧ (1 ≤ e.s ∧ e.s ≤ 1099511627776) ∧ decide (∀ i, e.d i = Ent.zero.d i) = true) ∨
    ((0 ≤ e.k ∧ e.k ≤ 3) ∧ (¬ e.k = 1 ∧ ¬ e.k = 2) ∧ ¬ (0 ≤ e.l ∧ e.l ≤ 0)) ∨ ((0 ≤ e.k ∧ e.k ≤ 3) ∧ (¬ e.k = 1 ∧ ¬ e.k = 2) ∧ (0 ≤ e.l ∧ e.l ≤ 0) ∧ ¬ (0 ≤ e.s ∧ e.s ≤ 0)) ∨ ((0 ≤ e.k ∧ e.k ≤ 3) ∧ (¬ e.k = 1 ∧ ¬ e.k = 2) ∧ (0 ≤ e.l ∧ e.l ≤ 0) ∧ (0 ≤ e.s ∧ e.s ≤ 0) ∧ decide (∀ i, e.d i = Ent.zero.d i) = false) ∨ ((0 ≤ e.k ∧ e.k ≤ 3) ∧ (¬ e.k = 1 ∧ ¬ e.k = 2) ∧ (0 ≤ e.l ∧ e.l ≤ 0) ∧ (0 ≤ e.s ∧ e.s ≤ 0) ∧ decide (∀ i, e.d i = Ent.zero.d i) = true) := by
  by_cases k0 : e.k < 0
  · exact .inl ⟨k0, by omega, by omega⟩
  by_cases k3 : 3 < e.k
  · exact .inr (.inl ⟨k3, by omega, by omega⟩)
  refine .inr (.inr ?_)
  by_cases k1 : e.k = 1
  · simp only [k1, true_and]
    by_cases hl : 0 ≤ e.l ∧ e.l ≤ 65536
    · by_cases hs : 1 ≤ e.s ∧ e.s ≤ 1099511627776
      · exact .inr (.inr (.inl ⟨hl, hs⟩))
      · exact .inr (.inl ⟨hl, hs⟩)
    · exact .inl hl
  refine .inr (.inr (.inr ?_))
  by_cases k2 : e.k = 2
  · simp only [k2, true_and]
    by_cases hl : 0 ≤ e.l ∧ e.l ≤ 65536
    · by_cases hs : 1 ≤ e.s ∧ e.s ≤ 1099511627776
      · cases hq : decide (∀ i, e.d i = Ent.zero.d i)
        · exact .inr (.inr (.inl ⟨hl, hs, rfl⟩))
        · exact .inr (.inr (.inr (.inl ⟨hl, hs, rfl⟩)))
      · exact .inr (.inl ⟨hl, hs⟩)
    · exact .inl hl
  refine .inr (.inr (.inr (.inr ?_)))
  have hk : 0 ≤ e.k ∧ e.k ≤ 3 := by omega
  by_cases hl : 0 ≤ e.l ∧ e.l ≤ 0
  · by_cases hs : 0 ≤ e.s ∧ e.s ≤ 0
    · cases hq : decide (∀ i, e.d i = Ent.zero.d i)
      · exact .inr (.inr (.inl ⟨hk, ⟨k1, k2⟩, hl, hs, rfl⟩))
      · exact .inr (.inr (.inr ⟨hk, ⟨k1, k2⟩, hl, hs, rfl⟩))
    · exact .inr (.inl ⟨hk, ⟨k1, k2⟩, hl, hs⟩)
  · exact .inl ⟨hk, ⟨k1, k2⟩, hl⟩
set_option maxRecDepth 100000 in
set_option maxHeartbeats 4000000 in
theorem check_any (e : Ent) (w : World) : Calls Try.prog 66 #[.agg e.arr] w fun x w' => x = .returned (.int .i64 (chkE e)) ∧ Below w.heap.size w w' := by
  rcases cases_e e with ⟨h1, h2, h3⟩ | ⟨h1, h2, h3⟩ | ⟨h1, h2⟩ | ⟨h1, h2, h3⟩ | ⟨h1, h2, h3⟩ | ⟨h1, h2⟩ | ⟨h1, h2, h3⟩ | ⟨h1, h2, h3, h4⟩ | ⟨h1, h2, h3, h4⟩ | ⟨h1, ⟨h2, h3⟩, h4⟩ | ⟨h1, ⟨h2, h3⟩, h4, h5⟩ | ⟨h1, ⟨h2, h3⟩, h4, h5, h6⟩ | ⟨h1, ⟨h2, h3⟩, h4, h5, h6⟩
  all_goals
    have hc : Hid (chkE e = 0) ∨ Hid (chkE e = 1) := by unfold Hid chkE; split <;> simp
    go_enter Try.func66, Try.ntmps66
    go_wp2_with (go_at_call 65; (first | (with_reducible refine (has_t _ _ _ _ (by omega)).mono ?_) | (with_reducible refine (has_f _ _ _ _ (by omega)).mono ?_)); rintro e' w1 ⟨rfl, rfl⟩)
    go_ret
    refine ⟨congrArg (fun z => Ending.returned (Value.int .i64 z)) (?_ : _ = chkE e), ?_⟩
    · first
        | (rw [chk_no]; first | rfl | (rintro ⟨a, b, c, d⟩; first | omega | (rw [if_pos (by omega)] at c; omega) | (rw [if_neg (by omega)] at c; omega) | exact absurd (show ∀ i, e.d i = Ent.zero.d i from d (by omega)) (of_decide_eq_false (by assumption))))
        | (rw [chk_yes]; first | rfl | exact ⟨by omega, by omega, by (first | rw [if_pos (by omega)] | rw [if_neg (by omega)]); omega, fun hne => by first | omega | exact of_decide_eq_true (by assumption)⟩)
    · repeat (first | exact Below.refl _ _ | refine Below.alloc ?_ (by simp <;> omega) _ | refine Below.setCell ?_ (by simp <;> omega) _)
theorem cases_r (e : Ent) : (e.k < 0 ∧ ¬ e.k = 1 ∧ ¬ e.k = 2) ∨ (3 < e.k ∧ ¬ e.k = 1 ∧ ¬ e.k = 2) ∨ (e.k = 1 ∧ e.l < 0) ∨ (e.k = 1 ∧ 65536 < e.l) ∨ (e.k = 1 ∧ (0 ≤ e.l ∧ e.l ≤ 65536) ∧ e.s < 1) ∨ (e.k = 1 ∧ (0 ≤ e.l ∧ e.l ≤ 65536) ∧ 1099511627776 < e.s) ∨ (e.k = 1 ∧ (0 ≤ e.l ∧ e.l ≤ 65536) ∧ (1 ≤ e.s ∧ e.s ≤ 1099511627776)) ∨ (e.k = 2 ∧ e.l < 0) ∨ (e.k = 2 ∧ 65536 < e.l) ∨ (e.k = 2 ∧ (0 ≤ e.l ∧ e.l ≤ 65536) ∧ e.s < 1) ∨ (e.k = 2 ∧ (0 ≤ e.l ∧ e.l ≤ 65536) ∧ 1099511627776 < e.s) ∨ (e.k = 2 ∧ (0 ≤ e.l ∧ e.l ≤ 65536) ∧ (1 ≤ e.s ∧ e.s ≤ 1099511627776) ∧ decide (∀ i, e.d i = Ent.zero.d i) = false) ∨ (e.k = 2 ∧ (0 ≤ e.l ∧ e.l ≤ 65536) ∧ (1 ≤ e.s ∧ e.s ≤ 1099511627776) ∧ decide (∀ i, e.d i = Ent.zero.d i) = true) ∨ ((0 ≤ e.k ∧ e.k ≤ 3) ∧ (¬ e.k = 1 ∧ ¬ e.k = 2) ∧ ¬ e.l = 0) ∨ ((0 ≤ e.k ∧ e.k ≤ 3) ∧ (¬ e.k = 1 ∧ ¬ e.k = 2) ∧ e.l = 0 ∧ ¬ e.s = 0) ∨ ((0 ≤ e.k ∧ e.k ≤ 3) ∧ (¬ e.k = 1 ∧ ¬ e.k = 2) ∧ e.l = 0 ∧ e.s = 0 ∧ decide (∀ i, e.d i = Ent.zero.d i) = false) ∨ ((0 ≤ e.k ∧ e.k ≤ 3) ∧ (¬ e.k = 1 ∧ ¬ e.k = 2) ∧ e.l = 0 ∧ e.s = 0 ∧ decide (∀ i, e.d i = Ent.zero.d i) = true) := by
  rcases cases_e e with ⟨h1, h2, h3⟩ | ⟨h1, h2, h3⟩ | ⟨h1, h2⟩ | ⟨h1, h2, h3⟩ | ⟨h1, h2, h3⟩ | ⟨h1, h2⟩ | ⟨h1, h2, h3⟩ | ⟨h1, h2, h3, h4⟩ | ⟨h1, h2, h3, h4⟩ | ⟨h1, h2, h4⟩ | ⟨h1, h2, h4, h5⟩ | ⟨h1, h2, h4, h5, h6⟩ | ⟨h1, h2, h4, h5, h6⟩
  · exact .inl (⟨h1, h2, h3⟩)
  · exact .inr (.inl (⟨h1, h2, h3⟩))
  · by_cases hx : e.l < 0
    · exact .inr (.inr (.inl (⟨h1, hx⟩)))
    · exact .inr (.inr (.inr (.inl (⟨h1, by omega⟩))))
  · by_cases hx : e.s < 1
    · exact .inr (.inr (.inr (.inr (.inl (⟨h1, h2, hx⟩)))))
    · exact .inr (.inr (.inr (.inr (.inr (.inl (⟨h1, h2, by omega⟩))))))
  · exact .inr (.inr (.inr (.inr (.inr (.inr (.inl (⟨h1, h2, h3⟩)))))))
  · by_cases hx : e.l < 0
    · exact .inr (.inr (.inr (.inr (.inr (.inr (.inr (.inl (⟨h1, hx⟩))))))))
    · exact .inr (.inr (.inr (.inr (.inr (.inr (.inr (.inr (.inl (⟨h1, by omega⟩)))))))))
  · by_cases hx : e.s < 1
    · exact .inr (.inr (.inr (.inr (.inr (.inr (.inr (.inr (.inr (.inl (⟨h1, h2, hx⟩))))))))))
    · exact .inr (.inr (.inr (.inr (.inr (.inr (.inr (.inr (.inr (.inr (.inl (⟨h1, h2, by omega⟩)))))))))))
  · exact .inr (.inr (.inr (.inr (.inr (.inr (.inr (.inr (.inr (.inr (.inr (.inl (⟨h1, h2, h3, h4⟩))))))))))))
  · exact .inr (.inr (.inr (.inr (.inr (.inr (.inr (.inr (.inr (.inr (.inr (.inr (.inl (⟨h1, h2, h3, h4⟩)))))))))))))
  · exact .inr (.inr (.inr (.inr (.inr (.inr (.inr (.inr (.inr (.inr (.inr (.inr (.inr (.inl (⟨h1, h2, by omega⟩))))))))))))))
  · exact .inr (.inr (.inr (.inr (.inr (.inr (.inr (.inr (.inr (.inr (.inr (.inr (.inr (.inr (.inl (⟨h1, h2, by omega, by omega⟩)))))))))))))))
  · exact .inr (.inr (.inr (.inr (.inr (.inr (.inr (.inr (.inr (.inr (.inr (.inr (.inr (.inr (.inr (.inl (⟨h1, h2, by omega, by omega, h6⟩))))))))))))))))
  · exact .inr (.inr (.inr (.inr (.inr (.inr (.inr (.inr (.inr (.inr (.inr (.inr (.inr (.inr (.inr (.inr ((⟨h1, h2, by omega, by omega, h6⟩)))))))))))))))))
set_option maxRecDepth 100000 in
set_option maxHeartbeats 4000000 in
theorem rcheck_any (e : Ent) (w : World) : Calls Try.prog 25 #[.agg e.arr] w fun x w' => x = .returned (.int .i64 (chkE e)) ∧ Below w.heap.size w w' := by
  rcases cases_r e with ⟨h1, h2, h3⟩ | ⟨h1, h2, h3⟩ | ⟨h1, h2⟩ | ⟨h1, h2⟩ | ⟨h1, h2, h3⟩ | ⟨h1, h2, h3⟩ | ⟨h1, h2, h3⟩ | ⟨h1, h2⟩ | ⟨h1, h2⟩ | ⟨h1, h2, h3⟩ | ⟨h1, h2, h3⟩ | ⟨h1, h2, h3, h4⟩ | ⟨h1, h2, h3, h4⟩ | ⟨h1, ⟨h2, h3⟩, h4⟩ | ⟨h1, ⟨h2, h3⟩, h4, h5⟩ | ⟨h1, ⟨h2, h3⟩, h4, h5, h6⟩ | ⟨h1, ⟨h2, h3⟩, h4, h5, h6⟩
  all_goals
    go_enter Try.func25, Try.ntmps25
    go_wp2_with fail
  all_goals
    go_ret
    refine ⟨congrArg (fun z => Ending.returned (Value.int .i64 z)) (?_ : _ = chkE e), ?_⟩
    · first
        | (rw [chk_no]; first | rfl | (rintro ⟨a, b, c, d⟩; first | omega | (rw [if_pos (by omega)] at c; omega) | (rw [if_neg (by omega)] at c; omega) | exact absurd (show ∀ i, e.d i = Ent.zero.d i from d (by omega)) (of_decide_eq_false (by assumption))))
        | (rw [chk_yes]; first | rfl | exact ⟨by omega, by omega, by (first | rw [if_pos (by omega)] | rw [if_neg (by omega)]); omega, fun hne => by first | omega | exact of_decide_eq_true (by assumption)⟩)
    · repeat (first | exact Below.refl _ _ | refine Below.alloc ?_ (by simp <;> omega) _ | refine Below.setCell ?_ (by simp <;> omega) _)
end Go.Proofs.Ytodbmgafejclmaa.Base
namespace Go.Proofs.Ytodbmgafejclmaa.Base
open Go.RowKit Go.Proofs.YtodbmgafejclmaaW.PrintWords Go.Proofs.YtodbmgafejclmaaW.PrintLast
set_option linter.unusedSimpArgs false
set_option linter.unusedVariables false
attribute [local go_sem] Ent.arr0 Ent.arr1 Ent.arr2 Ent.set1 Ent.set2 Ent.arr_size Ent.okW Ent.lit run_ldV_ent run_stV_ent ldR_some stR_true rd_new_whole rd_alloc canW_new canW_alloc wr_new wr_alloc rd_drew rd_drewN canW_drew canW_drewN run_bsS_ent run_bsS_ent0 run_eqI_ent rd_setCell rd_setCell_same canW_setCell' Option.map_some cell_wr_other rd_wr_same rd_wr_other
attribute [local go_sem ↓] ldV_ent stV_ent bsS_ent eqI_ent
attribute [local go_sem] Ent.arr0g Ent.arr1g Ent.arr2g run_ldV_dat rd_dat run_eqI_dat dat_lit
attribute [local go_sem ↓] ldV_dat eqI_dat
def dataL (e : Ent) : List Int := List.ofFn e.d
theorem dataL_len (e : Ent) : (dataL e).length = 16 := by simp [dataL]
theorem flat_data (e : Ent) : (flat (By (dataL e))).toArray = e.data.toArray := rfl
/-- a slot's bytes -/
def bytesE (h0 h1 h2 h3 : Int) (e : Ent) : List Int := leI h0 8 ++ [h1 % 256] ++ [h2 % 256] ++ [h3 % 256] ++ [e.k % 256] ++ leI e.l 8 ++ leI e.s 8 ++ dataL e ++ [0, 0, 0, 0]
theorem bytesE_len (h0 h1 h2 h3 : Int) (e : Ent) : (bytesE h0 h1 h2 h3 e).length = 48 := by simp [bytesE, leI_len, dataL_len]
theorem sl_data {w : World} {e : Ent} {b : Nat} (h : rd w b 3 16 = some e.data.toArray) (hb : b < w.heap.size) : Sl w 0 w.heap.size 1 (some ⟨b, 3, none⟩) (By (dataL e)) :=
  Sl.of_rd (By.sized _) (by rw [By.len, dataL_len, flat_data]; exact h) (Nat.zero_le _) hb
theorem flat_by (bs : List Int) : flat (By bs) = bs.map (Value.int .u8) := by
  induction bs with
  | nil => rfl
  | cons b bs ih => simp only [By, flat, List.map_cons, List.flatMap_cons] at ih ⊢; rw [ih]; rfl
/-- noughts behind bytes that the call owns -/
theorem run_append_by0 (w : World) (base n m : Nat) (v : Value) (bs : List Int) (hown : Ow w base 5 1 v (By bs)) (hn : bs.length = n) (hm : m ≤ 1000) (hsm : n + m ≤ 1000000) (hbase : base ≤ w.heap.size) (ty : TypeId) :
    ∃ A' c' w', (Builtin.append_ #[24, 3] ty #[v, .int .i64 m]).run Try.prog w = .ok (.slice A' (n + m) c') w' ∧ Ow w' base 5 1 (.slice A' (n + m) c') (By (bs ++ List.replicate m 0)) ∧ w.grownBy w' v.ownBlock ∧ n + m ≤ c' := by
  obtain ⟨i0, hi0, hz0, hz1, hz2⟩ := info_parts info_u8
  have hzc : ∀ m : Nat, (Builtin.zeroCells (Value.int .u8 0).cells m).toList = (List.replicate m (Value.int .u8 0)) := by
    intro m
    simp [Builtin.zeroCells, Value.cells, Nat.mod_one, List.map_const']
  obtain ⟨v', w', hrun, ho, hg, _⟩ := Go.Proofs.YtodbmgafejclmaaW.PrintWords.run_append_zeros (P := Try.prog) w base 24 3 ty 5 i0 _ 1 1 Try.underlying24 Try.underlying3 hi0 hz0 hz1 hz2 rfl (by omega) (by omega) v bs.length (flat (By bs)) (by have := hown; unfold Ow at this; rw [By.len] at this; exact this) .i64 m (by rw [hzc]; intro u hu; rw [List.mem_replicate] at hu; rw [hu.2]; rfl) (by omega) hbase
  rw [hzc] at ho
  have ho' : Ow w' base 5 1 v' (By (bs ++ List.replicate m 0)) := by
    unfold Ow
    rw [By.len, List.length_append, List.length_replicate, flat_by, List.map_append, List.map_replicate, ← flat_by]
    exact ho
  obtain ⟨A', c', hv, hc, _⟩ := ho'.form
  rw [By.len, List.length_append, List.length_replicate, hn] at hv hc
  rw [hv] at hrun ho'
  exact ⟨A', c', w', hrun, ho', hg, hc⟩
theorem step_append0_ex {P : Program} {ops : Array Oper} {o : Oper} {a : Act} {w : World} {K : Act → World → Prop} {Q : Exit → Act → World → Prop} {E : Prop} (s x : Operand) (t ti : TypeId)
    (ho : o.op = .call { callee := .builtin .append, args := #[s, x], argTypes := #[t, ti] }) (hw : Region.wanted o (yielded ops a.tmps) = true)
    (h : ∃ v w', (Builtin.append_ #[t, ti] o.type #[a.eval s, a.eval x]).run P w = .ok v w' ∧ K (a.put o.dst v) w') :
    if Region.wanted o (yielded ops a.tmps) = true then Oper.wp P o a w K Q else E := by
  obtain ⟨v, w', hrun, h⟩ := h
  rw [if_pos hw]
  unfold Oper.wp execOp
  simp only [ho, resolve, invoke, builtin, Sem.run_bind, Sem.run_pure, Result.andThen_ok, List.map_toArray, List.map_cons, List.map_nil, hrun]
  exact h
set_option maxRecDepth 100000 in
set_option maxHeartbeats 4000000 in
theorem rbytes_any (h0 h1 h2 h3 : Int) (e : Ent) (w : World) (hh0 : I64 h0) (hh1 : I64 h1) (hh2 : I64 h2) (hh3 : I64 h3) (he0 : I64 e.k) (he1 : I64 e.l) (he2 : I64 e.s) :
    Calls Try.prog 26 #[.agg #[.int .i64 h0, .int .i64 h1, .int .i64 h2, .int .i64 h3], .agg e.arr] w fun x w' =>
      (∃ A c, x = .returned (.slice A 48 c) ∧ 48 ≤ c ∧ Ow w' w.heap.size 5 1 (.slice A 48 c) (By (bytesE h0 h1 h2 h3 e))) ∧ Below w.heap.size w w' := by
  go_enter Try.func26, Try.ntmps26
  go_wp2_with fail
  obtain ⟨W0, hW⟩ : ∃ W0, ((w.alloc (Obj.cells #[Value.int .i64 h0, Value.int .i64 h1, Value.int .i64 h2, Value.int .i64 h3] 69)).alloc (Obj.cells e.arr 54)) = W0 := ⟨_, rfl⟩
  rw [hW]
  have z0 : W0.heap.size = w.heap.size + 2 := by rw [← hW]; simp
  have b0 : Below w.heap.size w W0 := by rw [← hW]; exact ((Below.refl _ _).alloc (Nat.le_refl _) _).alloc (by simp) _
  have f1 : W0.cell? ⟨w.heap.size, 1, none⟩ = some (.int .i64 h1) := by rw [← hW]; clear hW z0 b0; go_simp
  have f2 : W0.cell? ⟨w.heap.size, 2, none⟩ = some (.int .i64 h2) := by rw [← hW]; clear hW z0 b0; go_simp
  have f3 : W0.cell? ⟨w.heap.size, 3, none⟩ = some (.int .i64 h3) := by rw [← hW]; clear hW z0 b0; go_simp
  have f4 : W0.cell? ⟨w.heap.size + 1, 0, none⟩ = some (.int .i64 e.k) := by rw [← hW]; clear hW z0 b0; go_simp
  have f5 : W0.cell? ⟨w.heap.size + 1, 1, none⟩ = some (.int .i64 e.l) := by rw [← hW]; clear hW z0 b0; go_simp
  have f6 : W0.cell? ⟨w.heap.size + 1, 2, none⟩ = some (.int .i64 e.s) := by rw [← hW]; clear hW z0 b0; go_simp
  have f7 : rd W0 (w.heap.size + 1) 3 16 = some e.data.toArray := by rw [← hW]; exact rd_dat _ _ _ (by simp)
  clear hW
  have keep0 : ∀ w', Below (w.heap.size + 2) W0 w' → (fun w' => w'.cell? ⟨w.heap.size, 1, none⟩ = some (.int .i64 h1) ∧ w'.cell? ⟨w.heap.size, 2, none⟩ = some (.int .i64 h2) ∧ w'.cell? ⟨w.heap.size, 3, none⟩ = some (.int .i64 h3) ∧ w'.cell? ⟨w.heap.size + 1, 0, none⟩ = some (.int .i64 e.k) ∧ w'.cell? ⟨w.heap.size + 1, 1, none⟩ = some (.int .i64 e.l) ∧ w'.cell? ⟨w.heap.size + 1, 2, none⟩ = some (.int .i64 e.s) ∧ rd w' (w.heap.size + 1) 3 16 = some e.data.toArray) w' := fun w' h => ⟨(h.cell (p := ⟨w.heap.size, 1, none⟩) (by show w.heap.size < _; omega)).trans f1, (h.cell (p := ⟨w.heap.size, 2, none⟩) (by show w.heap.size < _; omega)).trans f2, (h.cell (p := ⟨w.heap.size, 3, none⟩) (by show w.heap.size < _; omega)).trans f3, (h.cell (p := ⟨w.heap.size + 1, 0, none⟩) (by show w.heap.size + 1 < _; omega)).trans f4, (h.cell (p := ⟨w.heap.size + 1, 1, none⟩) (by show w.heap.size + 1 < _; omega)).trans f5, (h.cell (p := ⟨w.heap.size + 1, 2, none⟩) (by show w.heap.size + 1 < _; omega)).trans f6, (rd_below h (by omega) _ _).trans f7⟩
  clear f1 f2 f3 f4 f5 f6 f7
  replace z0 := hide z0
  have hb0 : w.heap.size + 2 ≤ W0.heap.size := by rw [unhide z0]; omega
  refine (rint_any [] h0 W0 hh0 (by simp) (w.heap.size + 2) hb0 none 0 0 rfl (Nat.le_refl _) (Ow.nil _ _ _ _)).mono ?_
  rintro x w1 ⟨⟨A1, c1, rfl, hc1, ho1⟩, hb1⟩
  rw [List.nil_append] at ho1
  have kw1d : Below (w.heap.size + 2) W0 w1.drew := hb1.drew
  have zw1d : w.heap.size + 2 ≤ w1.drew.heap.size := Nat.le_trans hb0 hb1.size
  have ho1d : Ow w1.drew (w.heap.size + 2) 5 1 (.slice A1 8 c1) (By (leI h0 8)) := ho1
  go_upto_region 2 with fail
  refine start_ (n := 14) (S := fun w' => w'.cell? ⟨w.heap.size, 1, none⟩ = some (.int .i64 h1) ∧ w'.cell? ⟨w.heap.size, 2, none⟩ = some (.int .i64 h2) ∧ w'.cell? ⟨w.heap.size, 3, none⟩ = some (.int .i64 h3) ∧ w'.cell? ⟨w.heap.size + 1, 0, none⟩ = some (.int .i64 e.k) ∧ w'.cell? ⟨w.heap.size + 1, 1, none⟩ = some (.int .i64 e.l) ∧ w'.cell? ⟨w.heap.size + 1, 2, none⟩ = some (.int .i64 e.s) ∧ rd w' (w.heap.size + 1) 3 16 = some e.data.toArray) (ds := []) #[false, false, false, false, false, false, false, false, false, false, false, false, false, false] (by kernel_rfl) rfl rfl (keep0 _ kw1d) (fun hHeld => ?_)
  refine pure_ (i := 0) (N := some 9) (v := ?_) (a' := ?_) #[true, false, false, false, false, false, false, false, false, false, false, false, false, false] rfl rfl (by kernel_rfl) (fun _ _ _ h => h) (Or.inl ⟨by rfl, ?_⟩) ?_ ?_
  rotate_left
  · intro w'
    go_simp
    with_reducible rfl
  rotate_left
  · simp only [Act.put, List.setIfInBounds_toArray, List.set_cons_zero, List.set_cons_succ, i64_w, i32_w]
    rfl
  refine pure_ (i := 1) (N := some 10) (v := ?_) (a' := ?_) #[true, true, false, false, false, false, false, false, false, false, false, false, false, false] rfl rfl (by kernel_rfl) (fun _ _ _ h => h) (Or.inl ⟨by rfl, ?_⟩) ?_ ?_
  rotate_left
  · intro w'
    go_simp
    with_reducible rfl
  rotate_left
  · simp only [Act.put, List.setIfInBounds_toArray, List.set_cons_zero, List.set_cons_succ, i64_w, i32_w]
    rfl
  refine take_ (i := 2) (N := some 11) (v := ?_) (a' := ?_) #[true, true, true, false, false, false, false, false, false, false, false, false, false, false] rfl rfl (by kernel_rfl) (fun _ _ _ h => h) (Or.inl ⟨by rfl, ?_⟩) hHeld ?_ ?_
  rotate_left
  · intro w' hs_; obtain ⟨s0, s1, s2, s3, s4, s5, s6⟩ := hs_
    go_simp
    with_reducible rfl
  rotate_left
  · simp only [Act.put, List.setIfInBounds_toArray, List.set_cons_zero, List.set_cons_succ, i64_w, i32_w]
    rfl
  refine pure_ (i := 4) (N := some 13) (v := ?_) (a' := ?_) #[true, true, true, false, true, false, false, false, false, false, false, false, false, false] rfl rfl (by kernel_rfl) (fun _ _ _ h => h) (Or.inl ⟨by rfl, ?_⟩) ?_ ?_
  rotate_left
  · intro w'
    go_simp
    with_reducible rfl
  rotate_left
  · simp only [Act.put, List.setIfInBounds_toArray, List.set_cons_zero, List.set_cons_succ, i64_w, i32_w]
    rfl
  refine take_ (i := 5) (N := some 14) (v := ?_) (a' := ?_) #[true, true, true, false, true, true, false, false, false, false, false, false, false, false] rfl rfl (by kernel_rfl) (fun _ _ _ h => h) (Or.inl ⟨by rfl, ?_⟩) hHeld ?_ ?_
  rotate_left
  · intro w' hs_; obtain ⟨s0, s1, s2, s3, s4, s5, s6⟩ := hs_
    go_simp
    with_reducible rfl
  rotate_left
  · simp only [Act.put, List.setIfInBounds_toArray, List.set_cons_zero, List.set_cons_succ, i64_w, i32_w]
    rfl
  refine pure_ (i := 7) (N := some 16) (v := ?_) (a' := ?_) #[true, true, true, false, true, true, false, true, false, false, false, false, false, false] rfl rfl (by kernel_rfl) (fun _ _ _ h => h) (Or.inl ⟨by rfl, ?_⟩) ?_ ?_
  rotate_left
  · intro w'
    go_simp
    with_reducible rfl
  rotate_left
  · simp only [Act.put, List.setIfInBounds_toArray, List.set_cons_zero, List.set_cons_succ, i64_w, i32_w]
    rfl
  refine take_ (i := 8) (N := some 17) (v := ?_) (a' := ?_) #[true, true, true, false, true, true, false, true, true, false, false, false, false, false] rfl rfl (by kernel_rfl) (fun _ _ _ h => h) (Or.inl ⟨by rfl, ?_⟩) hHeld ?_ ?_
  rotate_left
  · intro w' hs_; obtain ⟨s0, s1, s2, s3, s4, s5, s6⟩ := hs_
    go_simp
    with_reducible rfl
  rotate_left
  · simp only [Act.put, List.setIfInBounds_toArray, List.set_cons_zero, List.set_cons_succ, i64_w, i32_w]
    rfl
  refine pure_ (i := 10) (N := some 19) (v := ?_) (a' := ?_) #[true, true, true, false, true, true, false, true, true, false, true, false, false, false] rfl rfl (by kernel_rfl) (fun _ _ _ h => h) (Or.inl ⟨by rfl, ?_⟩) ?_ ?_
  rotate_left
  · intro w'
    go_simp
    with_reducible rfl
  rotate_left
  · simp only [Act.put, List.setIfInBounds_toArray, List.set_cons_zero, List.set_cons_succ, i64_w, i32_w]
    rfl
  refine take_ (i := 11) (N := some 20) (v := ?_) (a' := ?_) #[true, true, true, false, true, true, false, true, true, false, true, true, false, false] rfl rfl (by kernel_rfl) (fun _ _ _ h => h) (Or.inl ⟨by rfl, ?_⟩) hHeld ?_ ?_
  rotate_left
  · intro w' hs_; obtain ⟨s0, s1, s2, s3, s4, s5, s6⟩ := hs_
    go_simp
    with_reducible rfl
  rotate_left
  · simp only [Act.put, List.setIfInBounds_toArray, List.set_cons_zero, List.set_cons_succ, i64_w, i32_w]
    rfl
  refine one_ (i := 3) (N := some 12) #[true, true, true, true, true, true, false, true, true, false, true, true, false, false] rfl rfl (by kernel_rfl) (by decide) (fun K hK => ?_)
  refine goes_ Try.func38 (by kernel_rfl) rfl #[.slice A1 8 c1, .int .i64 h1] (by rfl) rfl rfl (by (try simp only [List.map_toArray, List.map_cons, List.map_nil]); first | done | rfl) ?_
  with_reducible refine (rbyte_any (leI h0 8) h1 w1.drew hh1 (by rw [leI_len]; omega) (w.heap.size + 2) zw1d A1 8 c1 (leI_len _ _) ho1d).mono ?_
  rintro x w2 ⟨⟨A2, c2, rfl, hc2, ho2⟩, hbw2⟩
  have kw2 : Below (w.heap.size + 2) W0 w2 := Below.trans kw1d hbw2
  have zw2 := kw2.size
  refine ⟨_, rfl, hK.out _ _ (keep0 _ kw2) (fun hHeld => ?_)⟩
  clear hK K
  refine norm_ (a' := ?_) ?_ ?_
  rotate_left
  · show Act.put _ (some 12) _ = _
    simp only [Act.put, List.setIfInBounds_toArray, List.set_cons_zero, List.set_cons_succ, i64_w, i32_w]
    rfl
  refine one_ (i := 6) (N := some 15) #[true, true, true, true, true, true, true, true, true, false, true, true, false, false] rfl rfl (by kernel_rfl) (by decide) (fun K hK => ?_)
  refine goes_ Try.func38 (by kernel_rfl) rfl #[.slice A2 9 c2, .int .i64 h2] (by rfl) rfl rfl (by (try simp only [List.map_toArray, List.map_cons, List.map_nil]); first | done | rfl) ?_
  with_reducible refine (rbyte_any _ h2 w2 hh2 (by simp [leI_len]) (w.heap.size + 2) (by omega) A2 9 c2 (by simp [leI_len]) ho2).mono ?_
  rintro x w3 ⟨⟨A3, c3, rfl, hc3, ho3⟩, hbw3⟩
  have kw3 : Below (w.heap.size + 2) W0 w3 := Below.trans kw2 hbw3
  have zw3 := kw3.size
  refine ⟨_, rfl, hK.out _ _ (keep0 _ kw3) (fun hHeld => ?_)⟩
  clear hK K
  refine norm_ (a' := ?_) ?_ ?_
  rotate_left
  · show Act.put _ (some 15) _ = _
    simp only [Act.put, List.setIfInBounds_toArray, List.set_cons_zero, List.set_cons_succ, i64_w, i32_w]
    rfl
  refine one_ (i := 9) (N := some 18) #[true, true, true, true, true, true, true, true, true, true, true, true, false, false] rfl rfl (by kernel_rfl) (by decide) (fun K hK => ?_)
  refine goes_ Try.func38 (by kernel_rfl) rfl #[.slice A3 10 c3, .int .i64 h3] (by rfl) rfl rfl (by (try simp only [List.map_toArray, List.map_cons, List.map_nil]); first | done | rfl) ?_
  with_reducible refine (rbyte_any _ h3 w3 hh3 (by simp [leI_len]) (w.heap.size + 2) (by omega) A3 10 c3 (by simp [leI_len]) ho3).mono ?_
  rintro x w4 ⟨⟨A4, c4, rfl, hc4, ho4⟩, hbw4⟩
  have kw4 : Below (w.heap.size + 2) W0 w4 := Below.trans kw3 hbw4
  have zw4 := kw4.size
  refine ⟨_, rfl, hK.out _ _ (keep0 _ kw4) (fun hHeld => ?_)⟩
  clear hK K
  refine norm_ (a' := ?_) ?_ ?_
  rotate_left
  · show Act.put _ (some 18) _ = _
    simp only [Act.put, List.setIfInBounds_toArray, List.set_cons_zero, List.set_cons_succ, i64_w, i32_w]
    rfl
  refine one_ (i := 12) (N := some 21) #[true, true, true, true, true, true, true, true, true, true, true, true, true, false] rfl rfl (by kernel_rfl) (by decide) (fun K hK => ?_)
  refine goes_ Try.func38 (by kernel_rfl) rfl #[.slice A4 11 c4, .int .i64 e.k] (by rfl) rfl rfl (by (try simp only [List.map_toArray, List.map_cons, List.map_nil]); first | done | rfl) ?_
  with_reducible refine (rbyte_any _ e.k w4 he0 (by simp [leI_len]) (w.heap.size + 2) (by omega) A4 11 c4 (by simp [leI_len]) ho4).mono ?_
  rintro x w5 ⟨⟨A5, c5, rfl, hc5, ho5⟩, hbw5⟩
  have kw5 : Below (w.heap.size + 2) W0 w5 := Below.trans kw4 hbw5
  have zw5 := kw5.size
  refine ⟨_, rfl, hK.out _ _ (keep0 _ kw5) (fun hHeld => ?_)⟩
  clear hK K
  refine norm_ (a' := ?_) ?_ ?_
  rotate_left
  · show Act.put _ (some 21) _ = _
    simp only [Act.put, List.setIfInBounds_toArray, List.set_cons_zero, List.set_cons_succ, i64_w, i32_w]
    rfl
  refine pure_ (i := 13) (N := some 5) (v := ?_) (a' := ?_) #[true, true, true, true, true, true, true, true, true, true, true, true, true, true] rfl rfl (by kernel_rfl) (fun _ _ _ h => h) (Or.inl ⟨by rfl, ?_⟩) ?_ ?_
  rotate_left
  · intro w'
    go_simp
    with_reducible rfl
  rotate_left
  · simp only [Act.put, List.setIfInBounds_toArray, List.set_cons_zero, List.set_cons_succ, i64_w, i32_w]
    rfl
  refine done_ (by kernel_rfl) ?_
  have kw5d : Below (w.heap.size + 2) W0 w5.drew := kw5.drew
  have zw5d : w.heap.size + 2 ≤ w5.drew.heap.size := Nat.le_trans hb0 kw5.size
  have ho5d : Ow w5.drew (w.heap.size + 2) 5 1 (.slice A5 12 c5) (By (leI h0 8 ++ [h1 % 256] ++ [h2 % 256] ++ [h3 % 256] ++ [e.k % 256])) := ho5
  have hc5d : 12 ≤ c5 := hc5
  go_upto_region 3 with fail
  refine start_ (n := 11) (S := fun w' => w'.cell? ⟨w.heap.size, 1, none⟩ = some (.int .i64 h1) ∧ w'.cell? ⟨w.heap.size, 2, none⟩ = some (.int .i64 h2) ∧ w'.cell? ⟨w.heap.size, 3, none⟩ = some (.int .i64 h3) ∧ w'.cell? ⟨w.heap.size + 1, 0, none⟩ = some (.int .i64 e.k) ∧ w'.cell? ⟨w.heap.size + 1, 1, none⟩ = some (.int .i64 e.l) ∧ w'.cell? ⟨w.heap.size + 1, 2, none⟩ = some (.int .i64 e.s) ∧ rd w' (w.heap.size + 1) 3 16 = some e.data.toArray) (ds := []) #[false, false, false, false, false, false, false, false, false, false, false] (by kernel_rfl) rfl rfl (keep0 _ kw5d) (fun hHeld => ?_)
  refine pure_ (i := 0) (N := some 22) (v := ?_) (a' := ?_) #[true, false, false, false, false, false, false, false, false, false, false] rfl rfl (by kernel_rfl) (fun _ _ _ h => h) (Or.inl ⟨by rfl, ?_⟩) ?_ ?_
  rotate_left
  · intro w'
    go_simp
    with_reducible rfl
  rotate_left
  · simp only [Act.put, List.setIfInBounds_toArray, List.set_cons_zero, List.set_cons_succ, i64_w, i32_w]
    rfl
  refine pure_ (i := 1) (N := some 23) (v := ?_) (a' := ?_) #[true, true, false, false, false, false, false, false, false, false, false] rfl rfl (by kernel_rfl) (fun _ _ _ h => h) (Or.inl ⟨by rfl, ?_⟩) ?_ ?_
  rotate_left
  · intro w'
    go_simp
    with_reducible rfl
  rotate_left
  · simp only [Act.put, List.setIfInBounds_toArray, List.set_cons_zero, List.set_cons_succ, i64_w, i32_w]
    rfl
  refine take_ (i := 2) (N := some 24) (v := ?_) (a' := ?_) #[true, true, true, false, false, false, false, false, false, false, false] rfl rfl (by kernel_rfl) (fun _ _ _ h => h) (Or.inl ⟨by rfl, ?_⟩) hHeld ?_ ?_
  rotate_left
  · intro w' hs_; obtain ⟨s0, s1, s2, s3, s4, s5, s6⟩ := hs_
    go_simp
    with_reducible rfl
  rotate_left
  · simp only [Act.put, List.setIfInBounds_toArray, List.set_cons_zero, List.set_cons_succ, i64_w, i32_w]
    rfl
  refine pure_ (i := 4) (N := some 26) (v := ?_) (a' := ?_) #[true, true, true, false, true, false, false, false, false, false, false] rfl rfl (by kernel_rfl) (fun _ _ _ h => h) (Or.inl ⟨by rfl, ?_⟩) ?_ ?_
  rotate_left
  · intro w'
    go_simp
    with_reducible rfl
  rotate_left
  · simp only [Act.put, List.setIfInBounds_toArray, List.set_cons_zero, List.set_cons_succ, i64_w, i32_w]
    rfl
  refine take_ (i := 5) (N := some 27) (v := ?_) (a' := ?_) #[true, true, true, false, true, true, false, false, false, false, false] rfl rfl (by kernel_rfl) (fun _ _ _ h => h) (Or.inl ⟨by rfl, ?_⟩) hHeld ?_ ?_
  rotate_left
  · intro w' hs_; obtain ⟨s0, s1, s2, s3, s4, s5, s6⟩ := hs_
    go_simp
    with_reducible rfl
  rotate_left
  · simp only [Act.put, List.setIfInBounds_toArray, List.set_cons_zero, List.set_cons_succ, i64_w, i32_w]
    rfl
  refine pure_ (i := 7) (N := some 29) (v := ?_) (a' := ?_) #[true, true, true, false, true, true, false, true, false, false, false] rfl rfl (by kernel_rfl) (fun _ _ _ h => h) (Or.inl ⟨by rfl, ?_⟩) ?_ ?_
  rotate_left
  · intro w'
    go_simp
    with_reducible rfl
  rotate_left
  · simp only [Act.put, List.setIfInBounds_toArray, List.set_cons_zero, List.set_cons_succ, i64_w, i32_w]
    rfl
  refine pure_ (i := 8) (N := some 30) (v := ?_) (a' := ?_) #[true, true, true, false, true, true, false, true, true, false, false] rfl rfl (by kernel_rfl) (fun _ _ _ h => h) (Or.inl ⟨by rfl, ?_⟩) ?_ ?_
  rotate_left
  · intro w'
    go_simp
    with_reducible rfl
  rotate_left
  · simp only [Act.put, List.setIfInBounds_toArray, List.set_cons_zero, List.set_cons_succ, i64_w, i32_w]
    rfl
  refine one_ (i := 3) (N := some 25) #[true, true, true, true, true, true, false, true, true, false, false] rfl rfl (by kernel_rfl) (by decide) (fun K hK => ?_)
  refine goes_ Try.func37 (by kernel_rfl) rfl #[.slice A5 12 c5, .int .i64 e.l] (by rfl) rfl rfl (by (try simp only [List.map_toArray, List.map_cons, List.map_nil]); first | done | rfl) ?_
  with_reducible refine (rint_any _ e.l w5.drew he1 (by simp [leI_len]) (w.heap.size + 2) zw5d A5 12 c5 (by simp [leI_len]) hc5d ho5d).mono ?_
  rintro x w6 ⟨⟨A6, c6, rfl, hc6, ho6⟩, hbw6⟩
  have kw6 : Below (w.heap.size + 2) W0 w6 := Below.trans kw5d hbw6
  have zw6 := kw6.size
  refine ⟨_, rfl, hK.out _ _ (keep0 _ kw6) (fun hHeld => ?_)⟩
  clear hK K
  refine norm_ (a' := ?_) ?_ ?_
  rotate_left
  · show Act.put _ (some 25) _ = _
    simp only [Act.put, List.setIfInBounds_toArray, List.set_cons_zero, List.set_cons_succ, i64_w, i32_w]
    rfl
  refine one_ (i := 6) (N := some 28) #[true, true, true, true, true, true, true, true, true, false, false] rfl rfl (by kernel_rfl) (by decide) (fun K hK => ?_)
  refine goes_ Try.func37 (by kernel_rfl) rfl #[.slice A6 20 c6, .int .i64 e.s] (by rfl) rfl rfl (by (try simp only [List.map_toArray, List.map_cons, List.map_nil]); first | done | rfl) ?_
  with_reducible refine (rint_any _ e.s w6 he2 (by simp [leI_len]) (w.heap.size + 2) (by omega) A6 20 c6 (by simp [leI_len]) hc6 ho6).mono ?_
  rintro x w7 ⟨⟨A7, c7, rfl, hc7, ho7⟩, hbw7⟩
  have kw7 : Below (w.heap.size + 2) W0 w7 := Below.trans kw6 hbw7
  have zw7 := kw7.size
  refine ⟨_, rfl, hK.out _ _ (keep0 _ kw7) (fun hHeld => ?_)⟩
  clear hK K
  refine norm_ (a' := ?_) ?_ ?_
  rotate_left
  · show Act.put _ (some 28) _ = _
    simp only [Act.put, List.setIfInBounds_toArray, List.set_cons_zero, List.set_cons_succ, i64_w, i32_w]
    rfl
  have hs7 : Sl w7 0 w7.heap.size 1 (some ⟨w.heap.size + 1, 3, none⟩) (By (dataL e)) := sl_data hHeld.2.2.2.2.2.2 (by omega)
  obtain ⟨A8, c8, w8, hrun8, ho8, hg8, hc8⟩ := run_append_by w7 (w.heap.size + 2) 28 (.slice A7 28 c7) _ (dataL e) ho7 (by simp [leI_len]) 0 w7.heap.size (some ⟨w.heap.size + 1, 3, none⟩) 16 16 hs7 (dataL_len e) (by omega) (by omega) 24
  have k8 : Below (w.heap.size + 2) W0 w8 := below_grown kw7 hg8 (by omega) (fun k ek => (ho7.lt k ek).1)
  refine one_ (i := 9) (N := some 31) #[true, true, true, true, true, true, true, true, true, true, false] rfl rfl (by kernel_rfl) (by decide) (fun K hK => ?_)
  refine step_append_ex (.tmp 28) (.tmp 30) 24 rfl (by rfl) ⟨_, _, hrun8, ?_⟩
  refine hK.out _ _ (keep0 _ k8) (fun hHeld => ?_)
  clear hK K
  refine norm_ (a' := ?_) ?_ ?_
  rotate_left
  · show Act.put _ (some 31) _ = _
    simp only [Act.put, List.setIfInBounds_toArray, List.set_cons_zero, List.set_cons_succ, i64_w, i32_w]
    rfl
  refine pure_ (i := 10) (N := some 5) (v := ?_) (a' := ?_) #[true, true, true, true, true, true, true, true, true, true, true] rfl rfl (by kernel_rfl) (fun _ _ _ h => h) (Or.inl ⟨by rfl, ?_⟩) ?_ ?_
  rotate_left
  · intro w'
    go_simp
    with_reducible rfl
  rotate_left
  · simp only [Act.put, List.setIfInBounds_toArray, List.set_cons_zero, List.set_cons_succ, i64_w, i32_w]
    rfl
  refine done_ (by kernel_rfl) ?_
  obtain ⟨A9, c9, w9, hrun9, ho9, hg9, hc9⟩ := run_append_by0 w8 (w.heap.size + 2) 44 4 (.slice A8 44 c8) _ ho8 (by simp [leI_len, dataL_len]) (by omega) (by omega) (Nat.le_trans hb0 k8.size) 24
  have k9 : Below (w.heap.size + 2) W0 w9 := below_grown k8 hg9 (Nat.le_trans hb0 k8.size) (fun k ek => (ho8.lt k ek).1)
  go_wp2_with (at_builtin; refine wpList_step (fun K hK => step_append0_ex (o := ⟨some 33, _, _, _, _, _⟩) (.tmp 32) (.const (.int .i64 4)) 24 3 rfl (by rfl) ⟨_, _, hrun9, hK _ _ ?_⟩))
  go_ret
  exact ⟨⟨A9, c9, rfl, hc9, ho9.less (by omega)⟩, b0.trans (k9.mono (by omega))⟩
end Go.Proofs.Ytodbmgafejclmaa.Base
namespace Go.Proofs.Ytodbmgafejclmaa.Base
open Go.RowKit Go.Proofs.YtodbmgafejclmaaW.PrintWords Go.Proofs.YtodbmgafejclmaaW.PrintLast
set_option linter.unusedSimpArgs false
set_option linter.unusedVariables false
theorem tmod_neg_iff (a n : Int) (hn : 1 ≤ n) : (if a.tmod n < 0 then a.tmod n + n else a.tmod n) = a % n := by
  have h1 := Int.tmod_eq_emod (a := a) (b := n)
  have h2 := Int.emod_nonneg a (b := n) (by omega)
  have h3 := Int.emod_lt_of_pos a (b := n) (by omega)
  have h4 : (n.natAbs : Int) = n := by omega
  split at h1 <;> split <;> omega
set_option maxRecDepth 100000 in
theorem w10_any (a n : Int) (w : World) (ha0 : I64 a) (hn : 1 ≤ n) (hn2 : n ≤ 4611686018427387904) :
    Calls Try.prog 28 #[.int .i64 a, .int .i64 n] w fun e w' => e = .returned (.int .i64 (a % n)) ∧ w = w' := by
  have ha := ha0
  unfold I64 at ha
  have hk := tmod_neg_iff a n hn
  have h2 := Int.emod_nonneg a (b := n) (by omega)
  have h3 := Int.emod_lt_of_pos a (b := n) (by omega)
  by_cases h : a.tmod n < 0
  · rw [if_pos h] at hk
    have hb : -9223372036854775808 ≤ a.tmod n + n ∧ a.tmod n + n ≤ 9223372036854775807 := by omega
    have hw : IntKind.i64.wrap (a.tmod n + n) = a.tmod n + n := IntWalk.i64_in _ (by omega)
    replace hk := hide hk
    replace hw := hide hw
    clear h2 h3
    go_enter Try.func28, Try.ntmps28
    go_wp2
    go_ret
    refine ⟨?_, rfl⟩
    simp only [Ending.returned.injEq]
    rw [← (unhide hk)]
    simp
  · rw [if_neg h] at hk
    replace hk := hide hk
    clear h2 h3
    go_enter Try.func28, Try.ntmps28
    go_wp2
    go_ret
    exact ⟨by rw [← (unhide hk)]; rfl, rfl⟩
/-- an update that may be, of raw numbers -/
def goodE (e : Ent) : Ent := if e.k % 4 = 1 then ⟨1, e.l % 100, 1 + e.s % 1000, e.d⟩ else if e.k % 4 = 2 then ⟨2, e.l % 100, 1 + e.s % 1000, fun _ => 0⟩ else ⟨e.k % 4, 0, 0, fun _ => 0⟩
def bdE (ps : Array (Nat × Value)) : Sem Value := Instr.build 54 ps
theorem build_ent (ps : Array (Nat × Value)) : Instr.build 54 ps = bdE ps := rfl
set_option maxRecDepth 100000 in
theorem run_bdE4 (w : World) (k l s : Int) (e : Ent) : (bdE #[(0, .int .i64 k), (1, .int .i64 l), (2, .int .i64 s), (3, .agg e.data.toArray)]).run Try.prog w = .ok (.agg ({ k := k, l := l, s := s, d := e.d } : Ent).arr) w := by kernel_rfl
set_option maxRecDepth 100000 in
theorem run_bdE3 (w : World) (k l s : Int) : (bdE #[(0, .int .i64 k), (1, .int .i64 l), (2, .int .i64 s)]).run Try.prog w = .ok (.agg ({ k := k, l := l, s := s, d := fun _ => 0 } : Ent).arr) w := by kernel_rfl
set_option maxRecDepth 100000 in
theorem run_bdE1 (w : World) (k : Int) : (bdE #[(0, .int .i64 k)]).run Try.prog w = .ok (.agg ({ k := k, l := 0, s := 0, d := fun _ => 0 } : Ent).arr) w := by kernel_rfl
set_option maxRecDepth 100000 in
theorem run_bdE0 (w : World) : (bdE #[]).run Try.prog w = .ok (.agg ({ k := 0, l := 0, s := 0, d := fun _ => 0 } : Ent).arr) w := by kernel_rfl
attribute [local go_sem] Ent.arr0 Ent.arr1 Ent.arr2 Ent.set1 Ent.set2 Ent.arr_size Ent.okW Ent.lit run_ldV_ent run_stV_ent ldR_some stR_true rd_new_whole rd_alloc canW_new canW_alloc wr_new wr_alloc rd_drew rd_drewN canW_drew canW_drewN run_bsS_ent run_bsS_ent0 run_eqI_ent rd_setCell rd_setCell_same canW_setCell' Option.map_some cell_wr_other rd_wr_same rd_wr_other
attribute [local go_sem ↓] ldV_ent stV_ent bsS_ent eqI_ent
attribute [local go_sem] Ent.arr0g Ent.arr1g Ent.arr2g run_ldV_dat rd_dat run_eqI_dat dat_lit
attribute [local go_sem ↓] ldV_dat eqI_dat
attribute [local go_sem] run_bdE4 run_bdE3 run_bdE1 run_bdE0
attribute [local go_sem ↓] build_ent
set_option maxRecDepth 100000 in
set_option maxHeartbeats 4000000 in
theorem good_any (e : Ent) (w : World) (hk : I64 e.k) (hl : I64 e.l) (hs : I64 e.s) : Calls Try.prog 19 #[.agg e.arr] w fun x w' => x = .returned (.agg (goodE e).arr) ∧ Below w.heap.size w w' := by
  have hq : 0 ≤ 1 + e.s % 1000 ∧ 1 + e.s % 1000 ≤ 1000 := by omega
  have hqw : IntKind.i64.wrap (1 + e.s % 1000) = 1 + e.s % 1000 := IntWalk.i64_in _ (by omega)
  have hkb : 0 ≤ e.k % 4 ∧ e.k % 4 < 4 := by omega
  obtain ⟨q, hqe⟩ : ∃ q, 1 + e.s % 1000 = q := ⟨_, rfl⟩
  rw [hqe] at hqw
  have hwk := w10_any e.k 4
  obtain ⟨K, hK⟩ : ∃ K, e.k % 4 = K := ⟨_, rfl⟩
  rw [hK] at hwk hkb
  have hg1 : Hid (K = 1 → goodE e = { k := 1, l := e.l % 100, s := q, d := e.d }) := hide (fun h => by unfold goodE; rw [hK, if_pos h, hqe])
  have hg2 : Hid (K = 2 → goodE e = { k := 2, l := e.l % 100, s := q, d := fun _ => 0 }) := hide (fun h => by unfold goodE; rw [hK, if_neg (by omega), if_pos h, hqe])
  have hg3 : Hid (¬ K = 1 → ¬ K = 2 → goodE e = { k := K, l := 0, s := 0, d := fun _ => 0 }) := hide (fun h h2 => by unfold goodE; rw [hK, if_neg h, if_neg h2])
  replace hK := hide hK; replace hwk := hide hwk
  clear hq
  by_cases c1 : K = 1
  · subst c1
    go_enter Try.func19, Try.ntmps19
    go_wp2_with fail
    refine ((unhide hwk) _ hk (by omega) (by omega)).mono ?_
    rintro x w1 ⟨rfl, rfl⟩
    go_upto_region 5 with fail
    obtain ⟨W0, hW⟩ : ∃ W0, ((w.alloc (Obj.cells e.arr 54)).alloc (Obj.cells ({ k := 0, l := 0, s := 0, d := fun _ => 0 } : Ent).arr 54)) = W0 := ⟨_, rfl⟩
    have z0 : W0.heap.size = w.heap.size + 2 := by rw [← hW]; simp
    have b0 : Below w.heap.size w W0 := by rw [← hW]; exact ((Below.refl _ _).alloc (Nat.le_refl _) _).alloc (by simp) _
    have hS : (fun w' => w'.cell? ⟨w.heap.size, 1, none⟩ = some (.int .i64 e.l) ∧ w'.cell? ⟨w.heap.size, 2, none⟩ = some (.int .i64 e.s) ∧ rd w' w.heap.size 3 16 = some e.data.toArray) W0.drew := by
      refine ⟨?_, ?_, ?_⟩
      · rw [← hW]; clear hW z0 b0; go_simp
      · rw [← hW]; clear hW z0 b0; go_simp
      · rw [← hW, rd_drew, rd_alloc _ _ _ _ _ (by simp)]; exact rd_dat _ _ _ rfl
    have hc0 : canW W0 (w.heap.size + 1) 0 19 = true := by rw [← hW]; exact canW_new _ _ _ _ _ _ (by simp) (by simp [Ent.arr_size])
    replace z0 := hide z0
    rw [hW]
    clear hW
    refine start_ (n := 12) (S := fun w' => w'.cell? ⟨w.heap.size, 1, none⟩ = some (.int .i64 e.l) ∧ w'.cell? ⟨w.heap.size, 2, none⟩ = some (.int .i64 e.s) ∧ rd w' w.heap.size 3 16 = some e.data.toArray) (ds := [11]) #[false, false, false, false, false, false, false, false, false, false, false, false] (by kernel_rfl) rfl rfl (hS) (fun hHeld => ?_)
    refine pure_ (i := 0) (N := some 12) (v := ?_) (a' := ?_) #[true, false, false, false, false, false, false, false, false, false, false, false] rfl rfl (by kernel_rfl) (fun _ _ _ h => h) (Or.inl ⟨by rfl, ?_⟩) ?_ ?_
    rotate_left
    · intro w'
      go_simp
      with_reducible rfl
    rotate_left
    · simp only [Act.put, List.setIfInBounds_toArray, List.set_cons_zero, List.set_cons_succ, i64_w, i32_w]
      rfl
    refine pure_ (i := 1) (N := some 13) (v := ?_) (a' := ?_) #[true, true, false, false, false, false, false, false, false, false, false, false] rfl rfl (by kernel_rfl) (fun _ _ _ h => h) (Or.inl ⟨by rfl, ?_⟩) ?_ ?_
    rotate_left
    · intro w'
      go_simp
      with_reducible rfl
    rotate_left
    · simp only [Act.put, List.setIfInBounds_toArray, List.set_cons_zero, List.set_cons_succ, i64_w, i32_w]
      rfl
    refine take_ (i := 2) (N := some 14) (v := ?_) (a' := ?_) #[true, true, true, false, false, false, false, false, false, false, false, false] rfl rfl (by kernel_rfl) (fun _ _ _ h => h) (Or.inl ⟨by rfl, ?_⟩) hHeld ?_ ?_
    rotate_left
    · intro w' hs_; obtain ⟨s0, s1, s2⟩ := hs_
      go_simp
      with_reducible rfl
    rotate_left
    · simp only [Act.put, List.setIfInBounds_toArray, List.set_cons_zero, List.set_cons_succ, i64_w, i32_w]
      rfl
    refine pure_ (i := 4) (N := some 16) (v := ?_) (a' := ?_) #[true, true, true, false, true, false, false, false, false, false, false, false] rfl rfl (by kernel_rfl) (fun _ _ _ h => h) (Or.inl ⟨by rfl, ?_⟩) ?_ ?_
    rotate_left
    · intro w'
      go_simp
      with_reducible rfl
    rotate_left
    · simp only [Act.put, List.setIfInBounds_toArray, List.set_cons_zero, List.set_cons_succ, i64_w, i32_w]
      rfl
    refine take_ (i := 5) (N := some 17) (v := ?_) (a' := ?_) #[true, true, true, false, true, true, false, false, false, false, false, false] rfl rfl (by kernel_rfl) (fun _ _ _ h => h) (Or.inl ⟨by rfl, ?_⟩) hHeld ?_ ?_
    rotate_left
    · intro w' hs_; obtain ⟨s0, s1, s2⟩ := hs_
      go_simp
      with_reducible rfl
    rotate_left
    · simp only [Act.put, List.setIfInBounds_toArray, List.set_cons_zero, List.set_cons_succ, i64_w, i32_w]
      rfl
    refine pure_ (i := 8) (N := some 20) (v := ?_) (a' := ?_) #[true, true, true, false, true, true, false, false, true, false, false, false] rfl rfl (by kernel_rfl) (fun _ _ _ h => h) (Or.inl ⟨by rfl, ?_⟩) ?_ ?_
    rotate_left
    · intro w'
      go_simp
      with_reducible rfl
    rotate_left
    · simp only [Act.put, List.setIfInBounds_toArray, List.set_cons_zero, List.set_cons_succ, i64_w, i32_w]
      rfl
    refine take_ (i := 9) (N := some 21) (v := ?_) (a' := ?_) #[true, true, true, false, true, true, false, false, true, true, false, false] rfl rfl (by kernel_rfl) (fun _ _ _ h => h) (Or.inl ⟨by rfl, ?_⟩) hHeld ?_ ?_
    rotate_left
    · intro w' hs_; obtain ⟨s0, s1, s2⟩ := hs_
      go_simp
      with_reducible rfl
    rotate_left
    · simp only [Act.put, List.setIfInBounds_toArray, List.set_cons_zero, List.set_cons_succ, i64_w, i32_w]
      rfl
    refine one_ (i := 3) (N := some 15) #[true, true, true, true, true, true, false, false, true, true, false, false] rfl rfl (by kernel_rfl) (by decide) (fun K hK => ?_)
    refine goes_ Try.func28 (by kernel_rfl) rfl #[.int .i64 e.l, .int .i64 100] (by rfl) rfl rfl (by (try simp only [List.map_toArray, List.map_cons, List.map_nil]); first | done | rfl) ?_
    with_reducible refine (w10_any e.l 100 W0.drew hl (by omega) (by omega)).mono ?_
    rintro x w1 ⟨rfl, rfl⟩
    refine ⟨_, rfl, hK.out _ _ hS (fun hHeld => ?_)⟩
    clear hK K
    refine norm_ (a' := ?_) ?_ ?_
    rotate_left
    · show Act.put _ (some 15) _ = _
      simp only [Act.put, List.setIfInBounds_toArray, List.set_cons_zero, List.set_cons_succ, i64_w, i32_w]
      rfl
    refine one_ (i := 6) (N := some 18) #[true, true, true, true, true, true, true, false, true, true, false, false] rfl rfl (by kernel_rfl) (by decide) (fun K hK => ?_)
    refine goes_ Try.func28 (by kernel_rfl) rfl #[.int .i64 e.s, .int .i64 1000] (by rfl) rfl rfl (by (try simp only [List.map_toArray, List.map_cons, List.map_nil]); first | done | rfl) ?_
    with_reducible refine (w10_any e.s 1000 W0.drew hs (by omega) (by omega)).mono ?_
    rintro x w1 ⟨rfl, rfl⟩
    refine ⟨_, rfl, hK.out _ _ hS (fun hHeld => ?_)⟩
    clear hK K
    refine norm_ (a' := ?_) ?_ ?_
    rotate_left
    · show Act.put _ (some 18) _ = _
      simp only [Act.put, List.setIfInBounds_toArray, List.set_cons_zero, List.set_cons_succ, i64_w, i32_w]
      rfl
    refine pure_ (i := 7) (N := some 19) (v := ?_) (a' := ?_) #[true, true, true, true, true, true, true, true, true, true, false, false] rfl rfl (by kernel_rfl) (fun _ _ _ h => h) (Or.inl ⟨by rfl, ?_⟩) ?_ ?_
    rotate_left
    · intro w'
      go_simp
      with_reducible rfl
    rotate_left
    · simp only [Act.put, List.setIfInBounds_toArray, List.set_cons_zero, List.set_cons_succ, i64_w, i32_w]
      rfl
    refine pure_ (i := 10) (N := some 22) (v := ?_) (a' := ?_) #[true, true, true, true, true, true, true, true, true, true, true, false] rfl rfl (by kernel_rfl) (fun _ _ _ h => h) (Or.inl ⟨by rfl, ?_⟩) ?_ ?_
    rotate_left
    · intro w'
      go_simp
      with_reducible rfl
    rotate_left
    · simp only [Act.put, List.setIfInBounds_toArray, List.set_cons_zero, List.set_cons_succ, i64_w, i32_w]
      rfl
    refine last_ (i := 11) (N := none) #[true, true, true, true, true, true, true, true, true, true, true, true] rfl rfl (by kernel_rfl) (by decide) (fun K hK => ?_)
    refine skip_ (w1 := ?_) (by rfl) rfl ?_ ?_
    rotate_left
    · go_simp
      rfl
    refine hK.out _ _ ?_
    clear hK K
    refine done_ (by kernel_rfl) ?_
    go_wp2_with fail
    refine bodyPost_ret (results_c Try.results19 Try.underlying54 rfl info_ent (cs := ({ k := 1, l := e.l % 100, s := q, d := e.d } : Ent).arr) rfl (rd_wr_same _ _ _ _ _ (Ent.arr_size _).symm hc0)) rfl ⟨by rw [unhide hg1 (by trivial)], ?_⟩
    exact below_wr b0.drew (by omega) _ _
  by_cases c2 : K = 2
  · subst c2
    go_enter Try.func19, Try.ntmps19
    go_wp2_with fail
    refine ((unhide hwk) _ hk (by omega) (by omega)).mono ?_
    rintro x w1 ⟨rfl, rfl⟩
    go_upto_region 7 with fail
    obtain ⟨W0, hW⟩ : ∃ W0, ((w.alloc (Obj.cells e.arr 54)).alloc (Obj.cells ({ k := 0, l := 0, s := 0, d := fun _ => 0 } : Ent).arr 54)) = W0 := ⟨_, rfl⟩
    have z0 : W0.heap.size = w.heap.size + 2 := by rw [← hW]; simp
    have b0 : Below w.heap.size w W0 := by rw [← hW]; exact ((Below.refl _ _).alloc (Nat.le_refl _) _).alloc (by simp) _
    have hS : (fun w' => w'.cell? ⟨w.heap.size, 1, none⟩ = some (.int .i64 e.l) ∧ w'.cell? ⟨w.heap.size, 2, none⟩ = some (.int .i64 e.s) ∧ rd w' w.heap.size 3 16 = some e.data.toArray) W0.drew := by
      refine ⟨?_, ?_, ?_⟩
      · rw [← hW]; clear hW z0 b0; go_simp
      · rw [← hW]; clear hW z0 b0; go_simp
      · rw [← hW, rd_drew, rd_alloc _ _ _ _ _ (by simp)]; exact rd_dat _ _ _ rfl
    have hc0 : canW W0 (w.heap.size + 1) 0 19 = true := by rw [← hW]; exact canW_new _ _ _ _ _ _ (by simp) (by simp [Ent.arr_size])
    replace z0 := hide z0
    rw [hW]
    clear hW
    refine start_ (n := 10) (S := fun w' => w'.cell? ⟨w.heap.size, 1, none⟩ = some (.int .i64 e.l) ∧ w'.cell? ⟨w.heap.size, 2, none⟩ = some (.int .i64 e.s) ∧ rd w' w.heap.size 3 16 = some e.data.toArray) (ds := [9]) #[false, false, false, false, false, false, false, false, false, false] (by kernel_rfl) rfl rfl (hS) (fun hHeld => ?_)
    refine pure_ (i := 0) (N := some 25) (v := ?_) (a' := ?_) #[true, false, false, false, false, false, false, false, false, false] rfl rfl (by kernel_rfl) (fun _ _ _ h => h) (Or.inl ⟨by rfl, ?_⟩) ?_ ?_
    rotate_left
    · intro w'
      go_simp
      with_reducible rfl
    rotate_left
    · simp only [Act.put, List.setIfInBounds_toArray, List.set_cons_zero, List.set_cons_succ, i64_w, i32_w]
      rfl
    refine pure_ (i := 1) (N := some 26) (v := ?_) (a' := ?_) #[true, true, false, false, false, false, false, false, false, false] rfl rfl (by kernel_rfl) (fun _ _ _ h => h) (Or.inl ⟨by rfl, ?_⟩) ?_ ?_
    rotate_left
    · intro w'
      go_simp
      with_reducible rfl
    rotate_left
    · simp only [Act.put, List.setIfInBounds_toArray, List.set_cons_zero, List.set_cons_succ, i64_w, i32_w]
      rfl
    refine take_ (i := 2) (N := some 27) (v := ?_) (a' := ?_) #[true, true, true, false, false, false, false, false, false, false] rfl rfl (by kernel_rfl) (fun _ _ _ h => h) (Or.inl ⟨by rfl, ?_⟩) hHeld ?_ ?_
    rotate_left
    · intro w' hs_; obtain ⟨s0, s1, s2⟩ := hs_
      go_simp
      with_reducible rfl
    rotate_left
    · simp only [Act.put, List.setIfInBounds_toArray, List.set_cons_zero, List.set_cons_succ, i64_w, i32_w]
      rfl
    refine pure_ (i := 4) (N := some 29) (v := ?_) (a' := ?_) #[true, true, true, false, true, false, false, false, false, false] rfl rfl (by kernel_rfl) (fun _ _ _ h => h) (Or.inl ⟨by rfl, ?_⟩) ?_ ?_
    rotate_left
    · intro w'
      go_simp
      with_reducible rfl
    rotate_left
    · simp only [Act.put, List.setIfInBounds_toArray, List.set_cons_zero, List.set_cons_succ, i64_w, i32_w]
      rfl
    refine take_ (i := 5) (N := some 30) (v := ?_) (a' := ?_) #[true, true, true, false, true, true, false, false, false, false] rfl rfl (by kernel_rfl) (fun _ _ _ h => h) (Or.inl ⟨by rfl, ?_⟩) hHeld ?_ ?_
    rotate_left
    · intro w' hs_; obtain ⟨s0, s1, s2⟩ := hs_
      go_simp
      with_reducible rfl
    rotate_left
    · simp only [Act.put, List.setIfInBounds_toArray, List.set_cons_zero, List.set_cons_succ, i64_w, i32_w]
      rfl
    refine one_ (i := 3) (N := some 28) #[true, true, true, true, true, true, false, false, false, false] rfl rfl (by kernel_rfl) (by decide) (fun K hK => ?_)
    refine goes_ Try.func28 (by kernel_rfl) rfl #[.int .i64 e.l, .int .i64 100] (by rfl) rfl rfl (by (try simp only [List.map_toArray, List.map_cons, List.map_nil]); first | done | rfl) ?_
    with_reducible refine (w10_any e.l 100 W0.drew hl (by omega) (by omega)).mono ?_
    rintro x w1 ⟨rfl, rfl⟩
    refine ⟨_, rfl, hK.out _ _ hS (fun hHeld => ?_)⟩
    clear hK K
    refine norm_ (a' := ?_) ?_ ?_
    rotate_left
    · show Act.put _ (some 28) _ = _
      simp only [Act.put, List.setIfInBounds_toArray, List.set_cons_zero, List.set_cons_succ, i64_w, i32_w]
      rfl
    refine one_ (i := 6) (N := some 31) #[true, true, true, true, true, true, true, false, false, false] rfl rfl (by kernel_rfl) (by decide) (fun K hK => ?_)
    refine goes_ Try.func28 (by kernel_rfl) rfl #[.int .i64 e.s, .int .i64 1000] (by rfl) rfl rfl (by (try simp only [List.map_toArray, List.map_cons, List.map_nil]); first | done | rfl) ?_
    with_reducible refine (w10_any e.s 1000 W0.drew hs (by omega) (by omega)).mono ?_
    rintro x w1 ⟨rfl, rfl⟩
    refine ⟨_, rfl, hK.out _ _ hS (fun hHeld => ?_)⟩
    clear hK K
    refine norm_ (a' := ?_) ?_ ?_
    rotate_left
    · show Act.put _ (some 31) _ = _
      simp only [Act.put, List.setIfInBounds_toArray, List.set_cons_zero, List.set_cons_succ, i64_w, i32_w]
      rfl
    refine pure_ (i := 7) (N := some 32) (v := ?_) (a' := ?_) #[true, true, true, true, true, true, true, true, false, false] rfl rfl (by kernel_rfl) (fun _ _ _ h => h) (Or.inl ⟨by rfl, ?_⟩) ?_ ?_
    rotate_left
    · intro w'
      go_simp
      with_reducible rfl
    rotate_left
    · simp only [Act.put, List.setIfInBounds_toArray, List.set_cons_zero, List.set_cons_succ, i64_w, i32_w]
      rfl
    refine pure_ (i := 8) (N := some 33) (v := ?_) (a' := ?_) #[true, true, true, true, true, true, true, true, true, false] rfl rfl (by kernel_rfl) (fun _ _ _ h => h) (Or.inl ⟨by rfl, ?_⟩) ?_ ?_
    rotate_left
    · intro w'
      go_simp
      with_reducible rfl
    rotate_left
    · simp only [Act.put, List.setIfInBounds_toArray, List.set_cons_zero, List.set_cons_succ, i64_w, i32_w]
      rfl
    refine last_ (i := 9) (N := none) #[true, true, true, true, true, true, true, true, true, true] rfl rfl (by kernel_rfl) (by decide) (fun K hK => ?_)
    refine skip_ (w1 := ?_) (by rfl) rfl ?_ ?_
    rotate_left
    · go_simp
      rfl
    refine hK.out _ _ ?_
    clear hK K
    refine done_ (by kernel_rfl) ?_
    go_wp2_with fail
    refine bodyPost_ret (results_c Try.results19 Try.underlying54 rfl info_ent (cs := ({ k := 2, l := e.l % 100, s := q, d := fun _ => 0 } : Ent).arr) rfl (rd_wr_same _ _ _ _ _ (Ent.arr_size _).symm hc0)) rfl ⟨by rw [unhide hg2 (by trivial)], ?_⟩
    exact below_wr b0.drew (by omega) _ _
  · go_enter Try.func19, Try.ntmps19
    go_wp2_with fail
    refine ((unhide hwk) _ hk (by omega) (by omega)).mono ?_
    rintro x w1 ⟨rfl, rfl⟩
    go_wp2_with fail
    refine bodyPost_ret (results_c Try.results19 Try.underlying54 rfl info_ent (cs := ({ k := K, l := 0, s := 0, d := fun _ => 0 } : Ent).arr) rfl (rd_new_whole _ _ _ _ _ _ (by simp) (Ent.arr_size _).symm)) rfl ⟨by rw [(unhide hg3) c1 c2], ?_⟩
    exact ((Below.refl _ _).alloc (Nat.le_refl _) _).alloc (by simp) _
/-- whole numbers of a slot lie in their kind's range -/
def Ent.Wf (e : Ent) : Prop := I64 e.k ∧ I64 e.l ∧ I64 e.s ∧ ∀ i, 0 ≤ e.d i ∧ e.d i < 256
end Go.Proofs.Ytodbmgafejclmaa.Base
namespace Go.Proofs.Ytodbmgafejclmaa.Base
open Go.RowKit Go.Maps Go.Proofs.YtodbmgafejclmaaW.PrintWords Go.Proofs.YtodbmgafejclmaaW.PrintLast
set_option linter.unusedSimpArgs false
set_option linter.unusedVariables false
theorem mlaw3 : Keyed Try.prog 3 := int_keyed Try.underlying3
theorem mzero3 (w : World) : (zeroValue 3).run Try.prog w = .ok (.int .i64 0) w := by kernel_rfl
def In (xs : List Int) : List (Array Value) := xs.map fun x => #[Value.int .i64 x]
theorem In.sized (bs : List Int) : Sized 1 (In bs) := by
  intro x hx
  obtain ⟨b, _, rfl⟩ := List.mem_map.1 hx
  rfl
theorem In.ones (bs : List Int) : Ones (In bs) := by
  intro x hx v hv
  obtain ⟨b, _, rfl⟩ := List.mem_map.1 hx
  simp only [List.mem_cons, List.not_mem_nil, or_false] at hv
  subst hv
  rfl
theorem In.len (bs : List Int) : (In bs).length = bs.length := by simp [In]
theorem In.app (bs cs : List Int) : In (bs ++ cs) = In bs ++ In cs := by simp [In]
theorem info_int : (Try.prog.info? 3).map (fun i => (i.zero, i.size, i.bytes)) = some (some (.int .i64 0), 1, 8) := by kernel_rfl
theorem run_append_in (w : World) (base n : Nat) (v : Value) (bs cs : List Int) (hown : Ow w base 3 1 v (In bs)) (hn : bs.length = n) (L B : Nat) (A : Option Addr) (m c : Nat) (hy : Sl w L B 1 A (In cs)) (hm : cs.length = m)
    (hsm : n + m ≤ 1000000) (hbase : base ≤ w.heap.size) (ty : TypeId) :
    ∃ A' c' w', (Builtin.append_ #[23, 23] ty #[v, .slice A m c]).run Try.prog w = .ok (.slice A' (n + m) c') w' ∧ Ow w' base 3 1 (.slice A' (n + m) c') (In (bs ++ cs)) ∧ w.grownBy w' v.ownBlock ∧ n + m ≤ c' := by
  obtain ⟨i0, hi0, hz0, hz1, hz2⟩ := info_parts info_int
  obtain ⟨A', c', w', h1, h2, h3, h4⟩ := run_append_ow (P := Try.prog) w base 23 ty 3 i0 _ 1 8 Try.underlying23 hi0 hz0 hz1 hz2 rfl (by omega) v (In bs) hown L B A m c (In cs) hy
    (In.sized cs) (In.ones cs) (by rw [In.len]; exact hm) (by rw [In.len, hn]; unfold maxLen; omega) (by rw [In.len, hn]; omega) hbase
  rw [In.len, hn] at h1 h2 h4
  exact ⟨A', c', w', h1, by rw [In.app]; exact h2, h3, h4⟩
/-- what a map that counts says -/
def Tal (D : DataW Unit) (l : List Int) : Prop := IsMap D ∧ ∀ x : Int, D.atKey (.int .i64 x) (.lit (.int .i64 0)) = .lit (.int .i64 (l.count x))
theorem Tal.nil : Tal (.map []) [] := ⟨isMap_empty, fun x => rfl⟩
theorem Tal.step {D : DataW Unit} {l : List Int} (h : Tal D l) (x : Int) : Tal (D.put (.int .i64 x) (.lit (.int .i64 ((l.count x : Int) + 1)))) (l ++ [x]) := by
  refine ⟨h.1.put _ _, fun y => ?_⟩
  by_cases hxy : y = x
  · subst hxy
    rw [atKey_put_same h.1 (show WideAt.IsKeyLit (.int .i64 y) from trivial)]
    simp [List.count_append]
  · rw [atKey_put_other (by simpa using hxy), h.2 y]
    have : List.count y [x] = 0 := by simp [List.count_cons]; exact fun e => hxy e.symm
    simp [List.count_append, this]
theorem Tal.cnt {D : DataW Unit} {l : List Int} (h : Tal D l) {x c : Int} (hat : D.atKey (.int .i64 x) (.lit (.int .i64 0)) = .lit (.int .i64 c)) : c = (l.count x : Int) := by
  have := h.2 x
  rw [hat] at this
  simpa using this
theorem info_tal : (Try.prog.info? 81).map (·.size) = some 1 := by kernel_rfl
abbrev OwM (w : World) (b n : Nat) (D : DataW Unit) : Prop := w.ownsMap Try.prog 3 (plainElem Try.prog 3) b n D
theorem OwM.ne {w : World} {b n : Nat} {D : DataW Unit} (h : OwM w b n D) {k o m : Nat} {cs : Array Value} (hr : rd w k o m = some cs) : k ≠ b := by
  rintro rfl
  obtain ⟨es, clock, hb, _⟩ := h
  unfold rd at hr
  rw [hb] at hr
  cases hr
set_option maxRecDepth 100000 in
set_option maxHeartbeats 1000000 in
theorem of_any (b : Nat) (A : Option Addr) (c L B base : Nat) (xs : List Int) (w : World) (hx : ∀ x ∈ xs, I64 x) (hl : xs.length ≤ 1000000) (hbase : base ≤ b) (hB : B ≤ w.heap.size) (hs : Sl w L B 1 A (In xs)) (ho : OwM w b 0 (.map [])) :
    Calls Try.prog 44 #[.agg #[.map (some b)], .slice A xs.length c] w fun e w' => e = .returned (.agg #[.map (some b)]) ∧ Below base w w' ∧ ∃ D, Tal D xs ∧ OwM w' b xs.length D := by
  have hblt := ho.lt
  go_enter Try.func44, Try.ntmps44
  go_wp2_with fail
  go_loopw [9] (fun s9 wr => ∃ (k : Nat) (D : DataW Unit), k ≤ xs.length ∧ s9 = .int .i64 k ∧ Tal D (xs.take k) ∧ OwM wr b k D ∧ Below base w wr ∧ w.heap.size + 2 ≤ wr.heap.size ∧ wr.cell? ⟨w.heap.size, 0, none⟩ = some (.map (some b)) ∧ wr.heap[w.heap.size + 1]? = some (.cells #[.map none] 81 (0, 0)) ∧ (∀ k, k < w.heap.size → k ≠ b → wr.heap[k]? = w.heap[k]?)) (fun s9 _ => xs.length - (intOf s9).toNat)
  case atStart =>
    refine ⟨0, .map [], by omega, rfl, Tal.nil, (ho.alloc _).alloc _, ((Below.refl _ _).alloc (by omega) _).alloc (by simp; omega) _, by simp, ?_, ?_, ?_⟩
    · go_simp
    · have := heap_alloc_new (w.alloc (Obj.cells #[.map (some b)] 81)) (Obj.cells #[.map none] 81)
      simpa using this
    · intro k hk _
      exact (Below.heap_alloc _ _ _ (by simp; omega)).trans (Below.heap_alloc _ _ _ hk)
  case round =>
    obtain ⟨k, D, hk, rfl, hT, hown, hb, hz, hbox, hres, hkeep⟩ := hrel
    by_cases hlt : k < xs.length
    · have hltI : (k : Int) < xs.length := by omega
      obtain ⟨ba, o, rfl, _, hbl, hr⟩ := hs.at_ (k := k) (by simpa [In] using hlt)
      have hne := ho.ne hr
      have hc1 := rd_cell ((rd_congr (hkeep ba (by omega) hne) _ _).trans hr) 0 (by omega)
      obtain ⟨X, hX⟩ : ∃ X, X = xs[k] := ⟨_, rfl⟩
      have hXI : I64 X := by rw [hX]; exact hx _ (List.getElem_mem hlt)
      have htk : xs.take (k + 1) = xs.take k ++ [X] := by rw [hX, List.take_succ_eq_append_getElem hlt]
      have hc2 : wr.cell? ⟨ba, o + k, none⟩ = some (.int .i64 X) := by
        rw [hX]
        simpa [In] using hc1
      have hkey : keyOf Try.prog 3 (.int .i64 X) = some (.int .i64 X) := keyOf_int_mk Try.underlying3 (by simpa [Lit.wf, IntKind.min, IntKind.max, IntKind.signed, IntKind.bits, I64] using hXI)
      have hcnt : (xs.take k).count X ≤ 1000000 := Nat.le_trans (List.count_le_length) (by rw [List.length_take]; omega)
      clear hX hc1 hr
      replace htk := hide htk
      replace hres := hide hres
      go_wp2_with (first
        | (at_lookup; refine wpList_lookup_own_int _ rfl _ _ 79 rfl 3 3 .i64 mlaw3 Try.underlying79 Try.underlying3 (mzero3 _) b k D rfl hown _ _ rfl hkey ?_; intro c_1 hat hwc)
        | (at_mapUpdate; refine wpList_mapUpdate_own _ rfl _ _ _ 79 rfl 3 3 mlaw3 Try.underlying79 _ b k D rfl hown (by unfold maxLen; omega) _ _ _ rfl rfl hkey _ [] (plainElem_int Try.underlying3 (wrap64_wf _)) ?_; intro w1 hown1 hgrow1))
      refine ⟨⟨k + 1, _, by omega, by go_num, ?_, hown1, hb.grown hgrow1 (by have := hb.size; omega) (fun j hj => by cases hj; exact hbase), by have := hgrow1.size; omega, hgrow1.cell hbox (fun e => by injection e with e; have e : w.heap.size = b := e; omega), (hgrow1.block (w.heap.size + 1) (by omega) (fun e => by injection e with e; omega)).trans (unhide hres), fun j hj hjb => (hgrow1.block j (by omega) (fun e => by injection e with e; omega)).trans (hkeep j hj hjb)⟩, by simp [intOf]; omega⟩
      rw [unhide htk]
      have e1 : wrap64 (c_1 + 1) = (((xs.take k).count X : Nat) : Int) + 1 := by
        rw [hT.cnt hat]
        rw [← i64_w]
        exact IntWalk.i64_in ((((xs.take k).count X : Nat) : Int) + 1) (by omega)
      rw [e1]
      exact hT.step X
    · obtain rfl : k = xs.length := by omega
      have hfr : wr.frozen? ⟨w.heap.size + 1, 0, none⟩ = false := by simp [World.frozen?, hres]
      have hrc : wr.cell? ⟨w.heap.size + 1, 0, none⟩ = some (.map none) := by simp [World.cell?, hres]
      have hr2 : rd (wr.setCell ⟨w.heap.size + 1, 0, none⟩ (.map (some b))) (w.heap.size + 1) 0 1 = some #[.map (some b)] := by
        rw [rd_setCell_same]
        simp [rd, hres]
      replace hres := hide hres
      replace hr2 := hide hr2
      have hT' := hT
      rw [List.take_length] at hT'
      go_wp2_with fail
      refine bodyPost_ret (results_c Try.results44 Try.underlying81 rfl info_tal (cs := #[.map (some b)]) rfl (unhide hr2)) rfl ?_
      exact ⟨rfl, hb.setCell (by show base ≤ w.heap.size + 1; omega) _, D, hT', hown.setCell (by show b ≠ w.heap.size + 1; omega) _⟩
end Go.Proofs.Ytodbmgafejclmaa.Base
namespace Go.Proofs.Ytodbmgafejclmaa.Base
open Go.RowKit Go.Proofs.YtodbmgafejclmaaW.PrintWords
set_option linter.unusedSimpArgs false
set_option linter.unusedVariables false
theorem addr_nxt (b o k : Nat) : (⟨b, o, none⟩ : Addr).add k = ⟨b, o + k, none⟩ := by
  unfold Addr.add
  split
  · simp_all
  · simp_all
/-- bytes, as the print's words have them -/
theorem C_of_by {w : World} {L B : Nat} {A : Option Addr} {bs : List Int} (hm : bs.length ≤ 9223372036854775807) (h : Sl w L B 1 A (By bs)) : Kd.C (Kd.int .u8) w A bs.length bs := by
  refine ⟨rfl, hm, fun hp => ?_⟩
  obtain ⟨b, o, rfl, _, _, hr⟩ := h.pos (by rw [By.len]; exact hp)
  refine ⟨_, rfl, fun j p hj => ?_⟩
  have hjl : j < bs.length := (List.getElem?_eq_some_iff.1 hj).1
  have hpj : bs[j] = p := (List.getElem?_eq_some_iff.1 hj).2
  have h1 := hr j (by rw [By.len]; exact hjl)
  have h2 := rd_cell h1 0 (by omega)
  simp only [By, List.getElem_map, hpj] at h2
  refine ⟨[Value.int .u8 p], rfl, rfl, fun q u hu => ?_⟩
  have hq : q = 0 := by
    have := (List.getElem?_eq_some_iff.1 hu).1
    simp at this
    omega
  subst hq
  simp only [List.getElem?_cons_zero, Option.some.injEq] at hu
  subst hu
  rw [show (⟨b, o, none⟩ : Addr).add (j * (Kd.int IntKind.u8).sz + 0) = ⟨b, o + j * 1 + 0, none⟩ from by rw [show (Kd.int IntKind.u8).sz = 1 from rfl, addr_nxt, Nat.add_assoc]]
  exact h2
abbrev Hr := Option Addr × Nat × List Int
def Hr.cell (t : Hr) : Value := .slice t.1 t.2.2.length t.2.1
/-- a row that the call owns of headers of bytes; the bytes lie elsewhere -/
def Rws (w : World) (base : Nat) (v : Value) (T : List Hr) : Prop :=
  w.ownsRow base 24 1 v T.length (T.map Hr.cell) ∧ ∀ t ∈ T, t.2.2.length ≤ t.2.1 ∧ t.2.2.length ≤ 1000000 ∧ Sl w 0 w.heap.size 1 t.1 (By t.2.2) ∧ ∀ a, t.1 = some a → a.block < w.heap.size ∧ some a.block ≠ v.ownBlock
theorem Rws.nil (w : World) (base : Nat) : Rws w base (.slice none 0 0) [] := ⟨World.ownsRow_nil w base _ _, fun t ht => by simp at ht⟩
theorem Sl.keep {w w' : World} {L B sz : Nat} {A : Option Addr} {xs : List (Array Value)} (h : Sl w L B sz A xs) (hk : ∀ a, A = some a → w'.heap[a.block]? = w.heap[a.block]?) : Sl w' L B sz A xs := fun hn => by
  obtain ⟨b, o, rfl, h1, h2, h3⟩ := h hn
  exact ⟨b, o, rfl, h1, h2, fun i hi => (rd_congr (hk _ rfl) _ _).trans (h3 i hi)⟩
theorem Rws.below {w w' : World} {base : Nat} {v : Value} {T : List Hr} (h : Rws w base v T) (hb : Below w.heap.size w w') : Rws w' base v T :=
  ⟨pw_own_below h.1 hb, fun t ht => by
    obtain ⟨h1, h2, h3, h4⟩ := h.2 t ht
    exact ⟨h1, h2, (h3.below hb).more hb.size, fun a ha => ⟨Nat.lt_of_lt_of_le (h4 a ha).1 hb.size, (h4 a ha).2⟩⟩⟩
theorem Rws.form {w : World} {base : Nat} {v : Value} {T : List Hr} (h : Rws w base v T) : ∃ A c, v = .slice A T.length c ∧ T.length ≤ c := by
  rcases h.1.2 with ⟨rfl, h0⟩ | ⟨g, cap, cur, rfl, _, _, hc, _⟩
  · exact ⟨none, 0, by rw [h0], by omega⟩
  · exact ⟨_, cap, rfl, hc⟩
/-- as the print's words have rows of bytes -/
theorem Rws.C {w : World} {base : Nat} {v : Value} {T : List Hr} (h : Rws w base v T) (hm : T.length ≤ 1000000) : ∃ A c, v = .slice A (T.map (·.2.2)).length c ∧ (T.map (·.2.2)).length ≤ c ∧ Kd.C (Kd.slice 5 (Kd.int .u8)) w A (T.map (·.2.2)).length (T.map (·.2.2)) := by
  rcases h.1.2 with ⟨rfl, h0⟩ | ⟨g, cap, cur, rfl, hg, hh, hc1, _, _, _⟩
  · have : T = [] := List.eq_nil_of_length_eq_zero h0
    subst this
    exact ⟨none, 0, rfl, Nat.le_refl _, Kd.C_nil _ _⟩
  · refine ⟨some ⟨g, 0, none⟩, cap, by rw [List.length_map], by rw [List.length_map]; exact hc1, rfl, by rw [List.length_map]; omega, fun _ => ⟨_, rfl, fun j p hj => ?_⟩⟩
    rw [List.getElem?_map] at hj
    obtain ⟨t, ht, rfl⟩ := Option.map_eq_some_iff.1 hj
    obtain ⟨e1, e2, e3, _⟩ := h.2 t (List.mem_of_getElem? ht)
    refine ⟨[t.cell], rfl, ⟨t.1, t.2.1, rfl, e1, C_of_by (by omega) e3⟩, fun q u hu => ?_⟩
    have hq : q = 0 := by
      have := (List.getElem?_eq_some_iff.1 hu).1
      simp at this
      omega
    subst hq
    simp only [List.getElem?_cons_zero, Option.some.injEq] at hu
    subst hu
    have := h.1.cells (g := g) rfl (j * 1 + 0) t.cell (by rw [Nat.mul_one, Nat.add_zero, List.getElem?_map, ht]; rfl)
    exact this
set_option maxRecDepth 100000 in
theorem info_sl8 : (Try.prog.info? 24).map (fun i => (i.zero, i.size, i.bytes)) = some (some (.slice none 0 0), 1, 24) := by kernel_rfl
theorem ones_cells (ts : List Hr) : ∀ u ∈ ts.map Hr.cell, u.oneCell' = true := by
  intro u hu
  obtain ⟨t, _, rfl⟩ := List.mem_map.1 hu
  rfl
/-- more rows of bytes -/
theorem Rws.app (w : World) (base : Nat) (v : Value) (T : List Hr) (h : Rws w base v T) (ts : List Hr) (k : Nat) (hk : ts.length = k) (hts : ∀ t ∈ ts, t.2.2.length ≤ t.2.1 ∧ t.2.2.length ≤ 1000000 ∧ Sl w 0 w.heap.size 1 t.1 (By t.2.2) ∧ ∀ a, t.1 = some a → a.block < w.heap.size ∧ some a.block ≠ v.ownBlock) (hT : T.length + k ≤ 100000) (hbase : base ≤ w.heap.size) (ty : TypeId) :
    ∃ A' c' w', (Builtin.append_ #[48, 48] ty #[v, .slice (some ⟨w.heap.size, 0, none⟩) k k]).run Try.prog (w.alloc (.cells (ts.map Hr.cell).toArray 24)) = .ok (.slice A' (T.length + k) c') w' ∧ T.length + k ≤ c' ∧ Rws w' base (.slice A' (T.length + k) c') (T ++ ts) ∧ (w.alloc (.cells (ts.map Hr.cell).toArray 24)).grownBy w' v.ownBlock := by
  subst hk
  obtain ⟨i0, hi0, hz0, hz1, hz2⟩ := info_parts info_sl8
  obtain ⟨v', w', hrun, ho, hg, _, hat⟩ := run_append_own_at (P := Try.prog) (w.alloc (.cells (ts.map Hr.cell).toArray 24)) base 48 ty 24 i0 _ 1 24 Try.underlying48 hi0 hz0 hz1 hz2 rfl (by omega) v T.length (T.map Hr.cell) (h.1.alloc _) ⟨w.heap.size, 0, none⟩ ts.length ts.length (ts.map Hr.cell) (by simp) (fun j u hu => by
      have hj : j < ts.length := by
        have := (List.getElem?_eq_some_iff.1 hu).1
        simpa using this
      rw [addr_nxt]
      have := rd_cell (rd_new_whole w (ts.map Hr.cell).toArray 24 (0, 0) _ ts.length rfl (by simp)) j hj
      rw [this]
      simpa using hu) (ones_cells ts) (by unfold maxLen; omega) (by omega) (by simp; omega)
  have hne : ∀ a, a.block < w.heap.size → some a.block ≠ v.ownBlock → some (Addr.block a) ≠ v'.ownBlock := fun a ha hb e => by
    rcases hat with h5 | h5
    · exact hb (e.trans h5)
    · rw [h5] at e
      injection e with e
      simp at e
      omega
  have hR : Rws w' base v' (T ++ ts) := by
    refine ⟨by rw [List.length_append, List.map_append]; exact ho, fun x hx => ?_⟩
    have hsz := hg.size
    rw [World.size_alloc] at hsz
    have key : x.2.2.length ≤ x.2.1 ∧ x.2.2.length ≤ 1000000 ∧ Sl w 0 w.heap.size 1 x.1 (By x.2.2) ∧ ∀ a, x.1 = some a → a.block < w.heap.size ∧ some a.block ≠ v.ownBlock := by
      rcases List.mem_append.1 hx with hx | hx
      · exact h.2 x hx
      · exact hts x hx
    obtain ⟨k1, k2, k3, k4⟩ := key
    refine ⟨k1, k2, ((k3.alloc (Nat.le_refl _) _).keep (fun a ha => hg.block _ (by have := (k4 a ha).1; simp; omega) (k4 a ha).2)).more (by omega), fun a ha => ⟨by have := (k4 a ha).1; omega, hne a (k4 a ha).1 (k4 a ha).2⟩⟩
  obtain ⟨A', c', hv, hc⟩ := hR.form
  rw [List.length_append] at hv hc
  have hv : v' = .slice A' (T.length + ts.length) c' := hv
  subst hv
  exact ⟨A', c', w', hrun, hc, hR, hg⟩
/-- bytes that the print's words tell -/
theorem by_of_R {w : World} {base : Nat} {ok : Nat → Prop} {v : Value} {p : List Int} (h : Kd.R (Kd.int .u8) 5 w base ok v p) : ∃ A c, v = .slice A p.length c ∧ p.length ≤ c ∧ Sl w base w.heap.size 1 A (By p) ∧ ∀ a, A = some a → base ≤ a.block ∧ a.block < w.heap.size := by
  have ho := Kd.own_of_R h
  have ho' : Ow w base 5 1 v (By p) := by unfold Ow; rw [By.len, flat_by]; exact ho
  obtain ⟨A, c, hv, hc, _⟩ := ho'.form
  rw [By.len] at hv hc
  subst hv
  exact ⟨A, c, rfl, hc, ho'.sl (By.sized _) (by omega), fun a ha => by subst ha; exact ho'.lt _ rfl⟩
end Go.Proofs.Ytodbmgafejclmaa.Base
namespace Go.Proofs.Ytodbmgafejclmaa.Base
open Go.RowKit Go.Maps Go.Proofs.YtodbmgafejclmaaW.PrintWords Go.Proofs.YtodbmgafejclmaaW.PrintLast
set_option linter.unusedSimpArgs false
set_option linter.unusedVariables false
/-- a page: its state, its bytes -/
abbrev Pg := Int × Hr
def Pg.arr (p : Pg) : Array Value := #[.int .i64 p.1, p.2.cell]
set_option maxRecDepth 100000 in
set_option maxHeartbeats 1000000 in
theorem states_any (A : Option Addr) (c : Nat) (ps : List Pg) (w : World) (hx : ∀ p ∈ ps, I64 p.1) (hl : ps.length ≤ 1000) (hc : ps.length ≤ c) (hs : Sl w 0 w.heap.size 2 A (ps.map Pg.arr)) :
    Calls Try.prog 34 #[.slice A ps.length c] w fun e w' => ∃ b D, e = .returned (.agg #[.map (some b)]) ∧ Below w.heap.size w w' ∧ Tal D (ps.map (·.1)) ∧ OwM w' b ps.length D := by
  go_enter Try.func34, Try.ntmps34
  go_wp2_with fail
  obtain ⟨W0, hW⟩ : ∃ W0, w.alloc (Obj.cells #[.map none] 81) = W0 := ⟨_, rfl⟩
  rw [hW]
  have z0 : W0.heap.size = w.heap.size + 1 := by rw [← hW]; simp
  have b0 : Below w.heap.size w W0 := by rw [← hW]; exact (Below.refl _ _).alloc (Nat.le_refl _) _
  have f0 : W0.heap[w.heap.size]? = some (.cells #[.map none] 81 (0, 0)) := by rw [← hW]; exact heap_alloc_new _ _
  clear hW
  replace z0 := hide z0
  replace f0 := hide f0
  go_loopw [3, 8] (fun s3 s8 wr => ∃ (j : Nat) (A2 : Option Addr) (c2 : Nat), j ≤ ps.length ∧ s8 = .int .i64 j ∧ s3 = .slice A2 j c2 ∧ j ≤ c2 ∧ Ow wr W0.heap.size 3 1 (.slice A2 j c2) (In ((ps.take j).map (·.1))) ∧ Below W0.heap.size W0 wr) (fun _ s8 _ => ps.length - (intOf s8).toNat)
  case atStart => exact ⟨0, none, 0, by omega, rfl, rfl, by omega, Ow.nil W0 W0.heap.size 3 1, Below.refl _ _⟩
  case round =>
    obtain ⟨j, A2, c2, hj, rfl, rfl, hc2, ho, hb⟩ := hrel
    have hz := hb.size
    by_cases hlt : j < ps.length
    · have hltI : (j : Int) < ps.length := by omega
      obtain ⟨b, o, rfl, _, hbl, hr⟩ := hs.at_ (k := j) (by simpa using hlt)
      simp only [List.getElem_map] at hr
      have hr2 := (rd_below (b0.trans (hb.mono (by rw [unhide z0]; omega))) hbl _ _).trans hr
      obtain ⟨X, hX⟩ : ∃ X, X = ps[j] := ⟨_, rfl⟩
      have htk : ps.take (j + 1) = ps.take j ++ [X] := by rw [hX, List.take_succ_eq_append_getElem hlt]
      rw [← hX] at hr2
      clear hr hX
      have hc0 : wr.cell? ⟨b, o + j * 2, none⟩ = some (.int .i64 X.1) := rd_cell hr2 0 (by omega)
      have hc1 : wr.cell? ⟨b, o + j * 2 + 1, none⟩ = some (.slice X.2.1 X.2.2.2.length X.2.2.1) := rd_cell hr2 1 (by omega)
      replace htk := hide htk
      replace hr2 := hide hr2
      obtain ⟨W3, hW3⟩ : ∃ W3, wr.alloc (Obj.cells #[Value.int .i64 X.1, Value.slice X.2.1 X.2.2.2.length X.2.2.1] 35) = W3 := ⟨_, rfl⟩
      have b3 : Below wr.heap.size wr W3 := by rw [← hW3]; exact (Below.refl _ _).alloc (Nat.le_refl _) _
      have ho3 := ho.below b3 (fun g hg => (ho.lt g hg).2)
      have z3 := b3.size
      obtain ⟨A3, c3, w4, hrun, ho4, hg4, hc4⟩ := run_append_in (W3.alloc (.cells #[.int .i64 X.1] 3)) W0.heap.size j (.slice A2 j c2) ((ps.take j).map (·.1)) [X.1] (ho3.alloc _) (by rw [List.length_map, List.length_take]; omega) 0 (W3.heap.size + 1) (some ⟨W3.heap.size, 0, none⟩) 1 1 (Sl.one (rd_new_whole _ _ _ _ _ _ rfl rfl) (Nat.zero_le _) (Nat.lt_succ_self _)) rfl (by omega) (by simp; omega) 23
      have hb4 : Below W0.heap.size W0 w4 := below_grown ((hb.trans (b3.mono hz)).alloc (by omega) _) hg4 (by simp; omega) (fun k ek => ((ho3.alloc (.cells #[.int .i64 X.1] 3)).lt k ek).1)
      have hlist : (ps.take j).map (·.1) ++ [X.1] = (ps.take (j + 1)).map (·.1) := by rw [unhide htk, List.map_append]; rfl
      rw [hlist] at ho4
      clear hlist ho3 b3
      rw [← hW3] at hrun
      simp only [World.size_alloc] at hrun
      replace hW3 := hide hW3
      replace ho4 := hide ho4
      go_wp2_with (at_builtin; refine wpList_step (fun K hK => step_append_ex (o := ⟨some 16, _, _, _, _, _⟩) (.tmp 12) (.tmp 15) 23 rfl (by rfl) ?_); (with_reducible refine app_ex hrun ?_ (hK _ _ ?_)); rfl)
      go_roundw
      case rel => exact ⟨j + 1, A3, c3, by omega, by go_num, rfl, hc4, unhide ho4, hb4⟩
      case measure => simp [intOf]; omega
    · obtain rfl : j = ps.length := by omega
      have hmm := @run_makeMap Try.prog
      have htl : ps.take ps.length = ps := List.take_length
      rw [htl] at ho
      have hcon := of_any wr.heap.size A2 c2 0 wr.heap.size W0.heap.size (ps.map (·.1)) (wr.alloc (Obj.map #[] 0)) (fun x hx' => by obtain ⟨p, hp, rfl⟩ := List.mem_map.1 hx'; exact hx p hp) (by simp; omega) hz (by simp) (((ho.sl (In.sized _) (by omega)).less (Nat.zero_le _)).below ((Below.refl _ _).alloc (Nat.le_refl _) _)) (World.ownsMap_made _ _ _ _)
      rw [List.length_map] at hcon
      replace htl := hide htl
      go_wp2_with fail
      (with_reducible refine hcon.mono ?_)
      rintro x w5 ⟨rfl, hb5, D, hT, hD⟩
      have hz5 := hb5.size
      simp only [World.size_alloc] at hz5
      have f5 : w5.heap[w.heap.size]? = some (.cells #[.map none] 81 (0, 0)) := by
        refine (hb5.block _ (by rw [unhide z0]; omega)).trans ((Below.heap_alloc _ _ _ (by rw [unhide z0] at hz; omega)).trans ((hb.block _ (by rw [unhide z0]; omega)).trans (unhide f0)))
      have f5c : w5.cell? ⟨w.heap.size, 0, none⟩ = some (.map none) := by simp [World.cell?, f5]
      have f5f : w5.frozen? ⟨w.heap.size, 0, none⟩ = false := by simp [World.frozen?, f5]
      have hr2 : rd (w5.setCell ⟨w.heap.size, 0, none⟩ (.map (some wr.heap.size))) w.heap.size 0 1 = some #[.map (some wr.heap.size)] := by
        rw [rd_setCell_same]
        simp [rd, f5]
      replace f5 := hide f5
      replace hr2 := hide hr2
      go_wp2_with fail
      refine bodyPost_ret (results_c Try.results34 Try.underlying81 rfl info_tal (cs := #[.map (some wr.heap.size)]) rfl (unhide hr2)) rfl ?_
      have hbF : Below w.heap.size w w5 := ((b0.trans (hb.mono (by rw [unhide z0]; omega))).alloc (by rw [unhide z0] at hz; omega) _).trans (hb5.mono (by rw [unhide z0]; omega))
      refine ⟨_, D, rfl, hbF.setCell (Nat.le_refl _) _, hT, hD.setCell (by show wr.heap.size ≠ w.heap.size; rw [unhide z0] at hz; omega) _⟩
end Go.Proofs.Ytodbmgafejclmaa.Base
namespace Go.Proofs.Ytodbmgafejclmaa.PRq
open Go.RowKit Go.Proofs.YtodbmgafejclmaaW.PrintWords Go.Proofs.YtodbmgafejclmaaW.PrintLast Go.Proofs.YtodbmgafejclmaaW.PrintMore
attribute [local go_sem] max2_int min2_int max_two min_two max_three min_three max_four min_four -- for this text's walks alone
set_option linter.unusedVariables false
set_option linter.unusedSimpArgs false
def errW : Option Int → Value
  | none => .nilIface
  | some c => .iface 0 (.int .i64 c)
theorem errW_none : errW none = .nilIface := rfl
theorem errW_some (c : Int) : errW (some c) = .iface 0 (.int .i64 c) := rfl
theorem info5 : (Try.prog.info? 5).map (fun i => (i.zero, i.size, i.bytes)) = some (some (.int .u8 0), 1, 1) := by kernel_rfl
def rd_L1 (xs : List (List Int)) (i : Int) : (List Int) := xs.getD i.toNat ([] : List Int)
theorem at_L1 {w : World} {A : Option Addr} {n : Nat} {xs : List (List Int)} (h : Kd.C (Kd.slice 5 (Kd.int .u8)) w A n xs) (i : Int) (h0 : 0 ≤ i) (h1 : i < n) : ∃ ad A0 c0, A = some ad ∧ w.cell? (ad.add i.toNat) = some (.slice A0 (rd_L1 xs i).length c0) ∧ (rd_L1 xs i).length ≤ c0 ∧ (Kd.int .u8).C w A0 (rd_L1 xs i).length (rd_L1 xs i) := by
  obtain ⟨ad, c, e, _, hK, hc0⟩ := Kd.C_get h ([] : List Int) i h0 h1
  have hc : ∀ j u, c[j]? = some u → w.cell? (ad.add (i.toNat * 1 + j)) = some u := hc0
  obtain ⟨A0, c0, rfl, l0, g0⟩ := hK
  exact ⟨ad, A0, c0, e, by have hq := hc 0 _ rfl; rwa [Nat.mul_one, Nat.add_zero] at hq, l0, g0⟩
end Go.Proofs.Ytodbmgafejclmaa.PRq
namespace Go.Proofs.Ytodbmgafejclmaa.Base
set_option linter.unusedSimpArgs false
set_option linter.unusedVariables false
open Go.RowKit
/-- THE ITERATOR's CONTRACT: whatever invariant J abides the iterator's own steps, and is carried on by each round. -/
def IterC {α : Type} (P : Program) (g : Nat) (lb : Array Value) (encs : α → Array Value) (St Kp : World → World → Prop) (S Sp : List α → Prop) (N : Nat) (w : World) : Prop :=
  ∀ (l : Nat) (J Jx : List α → World → Prop) (W : World), Below w.heap.size w W → (∀ pre A B, St A B → J pre A → J pre B) → (∀ pre A B, St A B → Jx pre A → Jx pre B) →
    (∀ pre x W1, J pre W1 → pre.length < N → Sp (pre ++ [x]) → YieldAt Fence.wide 0 P l (encs x) W1 fun e W' =>
      (e = .returned (.bool true) ∧ J (pre ++ [x]) W' ∧ Kp W1 W') ∨ (e = .returned (.bool false) ∧ Jx (pre ++ [x]) W')) →
    J [] W →
    CallsIn Fence.wide 0 P g (#[.func (.yield l) #[] #[]] ++ lb) W fun e W' => (∃ v, e = .returned v) ∧ ((∃ xs, S xs ∧ J xs W') ∨ (∃ pre, Sp pre ∧ Jx pre W'))
/-- blocks from n on are new, or as the call laid them; below n all is as it was: what a round keeps -/
theorem range_c {P : Program} {α : Type} {g : Operand} {ps : Array Tmp} {assign body : Code} {Q : Exit → Act → World → Prop} {a : Act} {w : World}
    {gf : Nat} {lb : Array Value} (hg : a.eval g = .func (.func gf) #[] lb) (eg : ∀ args w, (callFunc gf args).run P w = .ok (.enter gf args) w)
    {encs : α → Array Value} {St : World → World → Prop} {S Sp : List α → Prop} {N : Nat} {w0 : World} {Kp : World → World → Prop} (hseq : IterC P gf lb encs St Kp S Sp N w0) (hKt : ∀ {A B C : World}, Kp A B → Kp B C → Kp A C)
    (hKb : ∀ (W : World) (l : Nat) (o o' : Obj), w.heap.size ≤ l → W.heap[l]? = some o → o.isCells = false → o.isWalk = false → Kp W (W.putObj l o'))
    (hSt : ∀ A B, St A B → KeepsOthers A B) (hb0 : Below w0.heap.size w0 w) (hps : ∀ x, (encs x).size = ps.size)
    (I : List α → World → Prop) (Ix : Code → List α → World → Prop) (hI : OwnFrom w.heap.size I) (hIx : ∀ c, OwnFrom w.heap.size (Ix c)) (hIs : ∀ pre A B, St A B → I pre A → I pre B) (hIxs : ∀ c pre A B, St A B → Ix c pre A → Ix c pre B) (h0 : I [] w)
    (hround : ∀ (l : Nat) (pre : List α) (x : α) (W : World), I pre W → pre.length < N → Sp (pre ++ [x]) → w.heap.size + 1 < W.heap.size →
      assign.wpIn (Fence.wide.inRound l) 0 P (Exit.then (fun a₁ W₁ => KeepsOthers W W₁ ∧ Kp W W₁ ∧ ∃ I₁ : World → Prop, (∀ A B row, I₁ A → A.grownBy B row → (∀ r, row = some r → w.heap.size ≤ r ∧ ∃ o : Obj, A.heap[r]? = some o ∧ o.isCells = false) → I₁ B) ∧ I₁ W₁ ∧
        ∀ W₂, I₁ W₂ → W₂.heap.size = W₁.heap.size → body.wpIn (Fence.wide.inRound l) 0 P (ownPostK Kp I Ix (pre ++ [x]) W₂) a₁ W₂) (fun _ _ _ => False))
        { tmps := (ps.zip (encs x)).foldl (fun t (p, v) => t.setIfInBounds p v) a.tmps, defers := [] } W)
    (hdone : ∀ (D : Nat) (xs : List α) (W : World), w.heap.size ≤ D → S xs → I xs W → W.heap[D]? = some (.deferred (some [])) → Q .normal { a with defers := { target := .collected D, args := #[] } :: a.defers } W)
    (hstop : ∀ (D : Nat) (c : Code) (pre : List α) (W : World), w.heap.size ≤ D → Sp pre → Ix c pre W → W.heap[D]? = some (.deferred (some [])) → c.wpIn Fence.wide 0 P Q { a with defers := { target := .collected D, args := #[] } :: a.defers } W) :
    (Code.rangeFunc g ps assign body).wpIn Fence.wide 0 P Q a w := by
  refine wpIn_rangeFunc ?_
  intro fn hfn
  have hro : Fence.wide.round = none := rfl
  rw [hro]
  obtain ⟨rec, hrec⟩ : ∃ rec : LoopState → Option Code → Loop, rec = fun st pe => { state := st, pending := pe, fn, tmps := a.tmps, params := ps, assign, body, defers := w.heap.size } := ⟨_, rfl⟩
  obtain ⟨W1, hW1⟩ : ∃ W1, (w.alloc (.deferred (some []))).alloc (.loop (rec .ready none)) = W1 := ⟨_, rfl⟩
  have hL1 : W1.heap[w.heap.size + 1]? = some (.loop (rec .ready none)) := by
    rw [← hW1]; have := World.alloc_heap_new (w.alloc (.deferred (some []))) (.loop (rec .ready none)); rwa [World.size_alloc] at this
  have hK1 : W1.heap[w.heap.size]? = some (.deferred (some [])) := by
    rw [← hW1]; exact (Below.heap_alloc _ _ _ (by simp)).trans (World.alloc_heap_new w _)
  have hI1 : I [] W1 := by rw [← hW1]; exact hI.alloc _ (hI.alloc _ h0)
  have hb1 : Below w0.heap.size w0 W1 := by
    rw [← hW1]; exact hb0.trans ((((Below.refl _ w).alloc (Nat.le_refl _) _).alloc (by simp) _).mono hb0.size)
  refine ⟨w.heap.size + 1, [{ target := .collected w.heap.size, args := #[] }], W1, { target := .fn (.func gf) lb, args := #[.func (.yield (w.heap.size + 1)) #[] #[]] }, W1, gf,
    #[.func (.yield (w.heap.size + 1)) #[] #[]] ++ lb, W1, ?_, ?_, ?_, ?_, fun h => by simp [Fence.wide] at h, ?_⟩
  · rw [← hW1, hrec]; exact run_enterLoop_outer _ _ _ _ _
  · simp only [resolve, hg]
    simp [go_sem]
  · intro f' hf'; exact trivial
  · simp [invoke, go_sem, eg]
  · have kept : ∀ {A B : World} {k : Nat} {o : Obj}, St A B → A.heap[k]? = some o → o.isCells = false → B.heap[k]? = some o := fun hs hk ho => (hSt _ _ hs).same _ _ hk ho
    refine (hseq (w.heap.size + 1)
      (fun pre W => I pre W ∧ W.heap[w.heap.size + 1]? = some (.loop (rec .ready none)) ∧ W.heap[w.heap.size]? = some (.deferred (some [])))
      (fun pre W => ∃ c, Ix c pre W ∧ W.heap[w.heap.size + 1]? = some (.loop (rec .done (some c))) ∧ W.heap[w.heap.size]? = some (.deferred (some [])))
      W1 hb1
      (fun pre A B hs h => ⟨hIs _ _ _ hs h.1, kept hs h.2.1 rfl, kept hs h.2.2 rfl⟩)
      (fun pre A B hs h => by
        obtain ⟨c, hc, hl, hk⟩ := h
        exact ⟨c, hIxs _ _ _ _ hs hc, kept hs hl rfl, kept hs hk rfl⟩)
      ?_ ⟨hI1, hL1, hK1⟩).mono ?_
    · -- ONE ROUND
      rintro pre x W ⟨hi, hl, hk⟩ hlen hsp
      have hlt : w.heap.size + 1 < W.heap.size := (Array.getElem?_eq_some_iff.1 hl).1
      have hy := run_yield (P := P) (args := encs x) hl (by rw [hrec]; exact hps x)
      rw [hrec] at hy
      refine ⟨fn, _, assign, body, hy, roundIn_of_wpIn hfn (wpIn_mono (hround _ pre x W hi hlen hsp hlt) ?_)⟩
      rintro e a₁ W₁ hp
      cases e with
      | exit id => exact hp.elim
      | goto t => exact hp.elim
      | ret => exact hp.elim
      | panic ch => exact hp.elim
      | outgrown => exact hp.elim
      | normal =>
      obtain ⟨hko, hbl, I₁, hI₁, hi₁, hbody⟩ := hp
      have hl1 : W₁.heap[w.heap.size + 1]? = some (.loop (rec .ready none)) := hko.same _ _ hl rfl
      have hk1 : W₁.heap[w.heap.size]? = some (.deferred (some [])) := hko.same _ _ hk rfl
      have hlt1 : w.heap.size + 1 < W₁.heap.size := (Array.getElem?_eq_some_iff.1 hl1).1
      refine ⟨_, run_beginRound hl1 (by rw [hrec]), ?_⟩
      have hl2 : (W₁.putObj (w.heap.size + 1) (.loop { rec .ready none with state := .busy })).heap[w.heap.size + 1]? = some (.loop { rec .ready none with state := .busy }) := World.putObj_heap_same hlt1
      have hk2 : (W₁.putObj (w.heap.size + 1) (.loop { rec .ready none with state := .busy })).heap[w.heap.size]? = some (.deferred (some [])) := (World.putObj_heap_other (by omega)).trans hk1
      have hw2 : Kp W₁ (W₁.putObj (w.heap.size + 1) (.loop { rec .ready none with state := .busy })) := hKb _ _ _ _ (by omega) hl1 rfl rfl
      have hi2 : I₁ (W₁.putObj (w.heap.size + 1) (.loop { rec .ready none with state := .busy })) := hI₁ _ _ _ hi₁ (grownBy_putObj' W₁ (w.heap.size + 1) _) (fun r e => by cases e; exact ⟨by omega, _, hl1, rfl⟩)
      refine wpIn_mono (hbody _ hi2 (by simp [World.putObj])) ?_
      have fin : ∀ (jump : Option Code) (W3 : World), KeepsOthers (W₁.putObj (w.heap.size + 1) (.loop { rec .ready none with state := .busy })) W3 →
          (Instr.endRound (w.heap.size + 1) jump).run P W3 = .ok (.bool jump.isNone) (W3.putObj (w.heap.size + 1) (.loop (rec (if jump.isNone then .ready else .done) jump))) ∧
          W3.heap[w.heap.size + 1]? = some (.loop { rec .ready none with state := .busy }) ∧
          (W3.putObj (w.heap.size + 1) (.loop (rec (if jump.isNone then .ready else .done) jump))).heap[w.heap.size + 1]? = some (.loop (rec (if jump.isNone then .ready else .done) jump)) ∧
          (W3.putObj (w.heap.size + 1) (.loop (rec (if jump.isNone then .ready else .done) jump))).heap[w.heap.size]? = some (.deferred (some [])) := fun jump W3 hk3 => by
        have hl3 := hk3.same _ _ hl2 rfl
        have := run_endRound (P := P) jump hl3
        rw [hrec] at this ⊢
        exact ⟨this, by rw [hrec] at hl3; exact hl3, World.putObj_heap_same (Array.getElem?_eq_some_iff.1 hl3).1, (World.putObj_heap_other (by omega)).trans (hk3.same _ _ hk2 rfl)⟩
      rintro e a3 W3 hp
      cases e with
      | normal =>
        obtain ⟨hk3, hkp3, hi3⟩ := hp
        obtain ⟨hr, hl3, hl4, hk4⟩ := fin none W3 hk3
        exact ⟨_, _, hr, .inl ⟨rfl, ⟨hI.putObj _ hi3 (by omega) hl3 rfl, hl4, hk4⟩, hKt (hKt (hKt hbl hw2) hkp3) (hKb _ _ _ _ (by omega) hl3 rfl rfl)⟩⟩
      | ret =>
        obtain ⟨hk3, hi3⟩ := hp
        obtain ⟨hr, hl3, hl4, hk4⟩ := fin (some .ret) W3 hk3
        exact ⟨_, _, hr, .inr ⟨rfl, .ret, (hIx _).putObj _ hi3 (by omega) hl3 rfl, hl4, hk4⟩⟩
      | exit id =>
        obtain ⟨hk3, hi3⟩ := hp
        obtain ⟨hr, hl3, hl4, hk4⟩ := fin (some (.exit id)) W3 hk3
        exact ⟨_, _, hr, .inr ⟨rfl, .exit id, (hIx _).putObj _ hi3 (by omega) hl3 rfl, hl4, hk4⟩⟩
      | goto t =>
        obtain ⟨hk3, hi3⟩ := hp
        obtain ⟨hr, hl3, hl4, hk4⟩ := fin (some (.goto t)) W3 hk3
        exact ⟨_, _, hr, .inr ⟨rfl, .goto t, (hIx _).putObj _ hi3 (by omega) hl3 rfl, hl4, hk4⟩⟩
      | panic ch => exact hp.elim
      | outgrown => exact hp.elim
    · -- BEHIND THE ITERATOR
      rintro e W2 ⟨⟨v, rfl⟩, (⟨xs, hS, hi, hl, hk⟩ | ⟨pre, hSp, c, hi, hl, hk⟩)⟩
      · exact ⟨none, _, by have := run_endLoop (P := P) hl (by rw [hrec]; simp); rw [hrec] at this; exact this, hdone _ xs _ (Nat.le_refl _) hS (hI.putObj _ hi (by omega) hl rfl) ((World.putObj_heap_other (by omega)).trans hk)⟩
      · exact ⟨some c, _, by have := run_endLoop (P := P) hl (by rw [hrec]; simp); rw [hrec] at this; exact this, hstop _ c pre _ (Nat.le_refl _) hSp ((hIx c).putObj _ hi (by omega) hl rfl) ((World.putObj_heap_other (by omega)).trans hk)⟩
end Go.Proofs.Ytodbmgafejclmaa.Base
namespace Go.Proofs.Ytodbmgafejclmaa.Base
set_option linter.unusedSimpArgs false
set_option linter.unusedVariables false
open Go.RowKit
theorem wide_fn (f : FuncId) : Fence.wide.fn f = True := rfl
theorem wide_depth : Fence.wide.depth = none := rfl
attribute [local go_sem] wide_fn wide_depth Oper.semAt_some
def tw (a : Nat) : Nat := if 128 ≤ a then (a * 2 % 256) ^^^ 29 else a * 2
theorem tw_lt {a : Nat} (h : a < 256) : tw a < 256 := by
  unfold tw
  split
  · exact Nat.xor_lt_two_pow (n := 8) (by omega) (by omega)
  · omega
set_option maxRecDepth 100000 in
set_option maxHeartbeats 400000 in
theorem twice_any (a : Nat) (ha : a < 256) (w : World) :
    Calls Try.prog 94 #[.int .u8 (a : Int)] w fun e w' => e = .returned (.int .u8 ((tw a : Nat) : Int)) ∧ w = w' := by
  have h0 : (0 : Int) ≤ (a : Int) := by omega
  have h1 : (a : Int) < 256 := by omega
  by_cases h : 128 ≤ a
  · have e : (((a * 2 % 256) ^^^ 29 : Nat) : Int) = bits .xor .u8 ((a : Int) * 2 % 256) 29 := by
      have := u8_xor_nat (a * 2 % 256) 29 (by omega) (by omega)
      rw [← this]
      congr 1
    have et : tw a = (a * 2 % 256) ^^^ 29 := by unfold tw; rw [if_pos h]
    replace e := hide e
    replace et := hide et
    go_enter Try.func94, Try.ntmps94
    go_wp2
    go_ret
    refine ⟨?_, rfl⟩
    rw [(unhide et), (unhide e)]
    rfl
  · have et : tw a = a * 2 := by unfold tw; rw [if_neg h]
    replace et := hide et
    go_enter Try.func94, Try.ntmps94
    go_wp2
    go_ret
    refine ⟨?_, rfl⟩
    rw [(unhide et)]
    simp
/-- what is yielded: the bits of a, from the lowest on, each with b times that power of 2 -/
def bitsL : Nat → Nat → Nat → List (Bool × Nat)
  | 0, _, _ => []
  | n + 1, a, b => if a = 0 then [] else (a % 2 == 1, b) :: bitsL n (a / 2) (tw b)
/-- only the two captured cells may turn -/
structure StB (Ba Bb : Nat) (A B : World) : Prop where
  os : B.os = A.os
  tape : B.tape = A.tape
  output : B.output = A.output
  size : B.heap.size = A.heap.size
  block : ∀ k, k ≠ Ba → k ≠ Bb → B.heap[k]? = A.heap[k]?
  cells : ∀ (k : Nat) (o : Obj), A.heap[k]? = some o → o.isCells = false → B.heap[k]? = some o
theorem stB_two {Ba Bb : Nat} (A : World) (u v : Value) : StB Ba Bb A ((A.setCell ⟨Ba, 0, none⟩ u).setCell ⟨Bb, 0, none⟩ v).drew :=
  ⟨rfl, rfl, rfl, by simp [World.setCell], fun k h1 h2 => by
    show ((A.setCell ⟨Ba, 0, none⟩ u).setCell ⟨Bb, 0, none⟩ v).heap[k]? = _
    rw [Below.heap_setCell _ _ _ _ h2, Below.heap_setCell _ _ _ _ h1], fun k o hk ho => ((KeepsOthers.setCell A _ u).trans (KeepsOthers.setCell _ _ v)).same k o hk ho⟩
/-- a round keeps the two captured cells -/
structure KpB (Ba Bb : Nat) (A B : World) : Prop where
  size : A.heap.size ≤ B.heap.size
  a : B.heap[Ba]? = A.heap[Ba]?
  b : B.heap[Bb]? = A.heap[Bb]?
def cellNat (w : World) (b : Nat) : Nat := (intOf ((w.cell? ⟨b, 0, none⟩).getD undef)).toNat
set_option maxRecDepth 100000 in
set_option maxHeartbeats 1000000 in
theorem bits1_c (Ba Bb n₀ a b : Nat) (hBa : Ba < n₀) (hBb : Bb < n₀) (hab : Ba ≠ Bb) (ha : a < 256) (hb : b < 256) (w : World)
    (fa : w.cell? ⟨Ba, 0, none⟩ = some (.int .u8 (a : Int))) (fb : w.cell? ⟨Bb, 0, none⟩ = some (.int .u8 (b : Int))) (za : w.frozen? ⟨Ba, 0, none⟩ = false) (zb : w.frozen? ⟨Bb, 0, none⟩ = false) (hn : n₀ ≤ w.heap.size) :
    IterC Try.prog 93 #[.pointer (some ⟨Ba, 0, none⟩), .pointer (some ⟨Bb, 0, none⟩)] (fun x : Bool × Nat => #[.agg #[.bool x.1, .int .u8 (x.2 : Int)]]) (StB Ba Bb) (KpB Ba Bb)
      (fun xs => xs = bitsL 8 a b) (fun pre => pre <+: bitsL 8 a b) 8 w := by
  intro l J Jx W hbW hJ hJx hY h0
  refine callsIn_of_wp Try.func93 rfl trivial ?_ rfl
  simp only [Try.ntmps93, List.size_toArray, List.length_cons, List.length_nil, Nat.reduceAdd, Nat.reduceSub, Array.replicate_succ, Array.replicate_zero, List.push_toArray, List.append_toArray, List.nil_append, List.cons_append]
  gi_wp2
  gi_loopw [] (fun wr => ∃ (n a' b' : Nat) (pre : List (Bool × Nat)), bitsL 8 a b = pre ++ bitsL n a' b' ∧ pre.length + n = 8 ∧ a' < 2 ^ n ∧ a' < 256 ∧ b' < 256 ∧
      wr.cell? ⟨Ba, 0, none⟩ = some (.int .u8 (a' : Int)) ∧ wr.cell? ⟨Bb, 0, none⟩ = some (.int .u8 (b' : Int)) ∧ wr.frozen? ⟨Ba, 0, none⟩ = false ∧ wr.frozen? ⟨Bb, 0, none⟩ = false ∧ n₀ ≤ wr.heap.size ∧ J pre wr) (fun wr => cellNat wr Ba)
  case atStart => exact ⟨8, a, b, [], rfl, rfl, by omega, ha, hb, (hbW.cell (p := ⟨Ba, 0, none⟩) (by show Ba < _; omega)).trans fa, (hbW.cell (p := ⟨Bb, 0, none⟩) (by show Bb < _; omega)).trans fb, (hbW.frozen (p := ⟨Ba, 0, none⟩) (by show Ba < _; omega)).trans za, (hbW.frozen (p := ⟨Bb, 0, none⟩) (by show Bb < _; omega)).trans zb, Nat.le_trans hn hbW.size, h0⟩
  case round =>
    obtain ⟨n, a', b', pre, hpre, hlen, hpow, ha', hb', ga, gb, ya, yb, hsz, hJp⟩ := hrel
    rcases Nat.eq_zero_or_pos a' with rfl | hpos
    · gi_wp2
      go_end0
      refine ⟨⟨_, rfl⟩, .inl ⟨_, rfl, ?_⟩⟩
      rw [hpre]
      have : bitsL n 0 b' = [] := by cases n <;> simp [bitsL]
      rw [this, List.append_nil]
      exact hJp
    · obtain ⟨m, rfl⟩ : ∃ m, n = m + 1 := ⟨n - 1, by cases n with | zero => simp at hpow; omega | succ k => simp⟩
      have hbl : bitsL (m + 1) a' b' = (a' % 2 == 1, b') :: bitsL m (a' / 2) (tw b') := by rw [bitsL, if_neg (by omega)]
      have hand : bits BinOp.and IntKind.u8 (a' : Int) 1 = ((a' % 2 : Nat) : Int) := by
        have := u8_and_nat a' 1 (by omega) (by omega)
        rw [Nat.and_one_is_mod] at this
        exact this
      obtain ⟨fn, tmps, assign, body, hy, hR⟩ := hY pre (a' % 2 == 1, b') wr hJp (by omega) (by rw [hpre, hbl]; exact ⟨bitsL m (a' / 2) (tw b'), by simp⟩)
      dsimp only at hy
      have hbe : (a' % 2 == 1) = ((a' : Int) % 2 == 1) := by
        rw [Bool.eq_iff_iff, beq_iff_eq, beq_iff_eq]
        omega
      rw [hbe] at hy
      gi_wp2
      refine hR.mono ?_
      rintro e W3 (⟨rfl, hJ3, hk3⟩ | ⟨rfl, hJx3⟩)
      · have ga3 : W3.cell? ⟨Ba, 0, none⟩ = some (.int .u8 (a' : Int)) := (World.cell?_of_block hk3.a).trans ga
        have gb3 : W3.cell? ⟨Bb, 0, none⟩ = some (.int .u8 (b' : Int)) := (World.cell?_of_block hk3.b).trans gb
        have ya3 : W3.frozen? ⟨Ba, 0, none⟩ = false := (World.frozen?_of_block hk3.a).trans ya
        have yb3 : W3.frozen? ⟨Bb, 0, none⟩ = false := (World.frozen?_of_block hk3.b).trans yb
        gi_wp2
        gi_region_with (gi_at_call 94; refine (callsIn_wide.2 (twice_any _ hb' _)).mono ?_; rintro e w' ⟨rfl, rfl⟩)
        all_goals
          gi_wp2
          go_roundw
          case rel =>
            refine ⟨m, a' / 2, tw b', pre ++ [(a' % 2 == 1, b')], by rw [hpre, hbl]; simp, by simp; omega, by rw [Nat.pow_succ] at hpow; omega, by omega, tw_lt hb', by go_simp, by go_simp, ?_, ?_, ?_, ?_⟩
            · go_simp
            · go_simp
            · have := hk3.size; simp [World.setCell] at this ⊢; omega
            · rw [hbe]
              exact hJ _ _ _ (stB_two (Ba := Ba) (Bb := Bb) W3 _ _) (hbe ▸ hJ3)
          case measure =>
            unfold cellNat
            go_simp
            simp [intOf]
            omega
      · gi_wp2
        refine bodyPost_ret (results_none rfl _ _ _) rfl ?_
        exact ⟨⟨_, rfl⟩, .inr ⟨_, by rw [hpre, hbl]; exact ⟨bitsL m (a' / 2) (tw b'), by simp⟩, hJx3⟩⟩
theorem bits_any (a b : Nat) (w : World) :
    Calls Try.prog 80 #[.int .u8 (a : Int), .int .u8 (b : Int)] w fun e w' => e = .returned (.func (.func 93) #[] #[.pointer (some ⟨w.heap.size, 0, none⟩), .pointer (some ⟨w.heap.size + 1, 0, none⟩)]) ∧
      w' = (w.alloc (.cells #[.int .u8 (a : Int)] 5)).alloc (.cells #[.int .u8 (b : Int)] 5) := by
  go_enter Try.func80, Try.ntmps80
  go_wp2
  go_ret
  exact ⟨rfl, rfl⟩
def accL (xs : List (Bool × Nat)) : Nat := xs.foldl (fun o p => if p.1 then o ^^^ p.2 else o) 0
theorem accL_snoc (xs : List (Bool × Nat)) (x : Bool × Nat) : accL (xs ++ [x]) = if x.1 then accL xs ^^^ x.2 else accL xs := by simp [accL]
theorem accL_lt {xs : List (Bool × Nat)} (h : ∀ x ∈ xs, x.2 < 256) : accL xs < 256 := by
  suffices ∀ (ys : List (Bool × Nat)) (o : Nat), o < 256 → (∀ x ∈ ys, x.2 < 256) → ys.foldl (fun o p => if p.1 then o ^^^ p.2 else o) o < 256 from this xs 0 (by omega) h
  intro ys
  induction ys with
  | nil => intro o ho _; exact ho
  | cons y ys ih =>
    intro o ho hy
    simp only [List.foldl_cons]
    refine ih _ ?_ (fun x hx => hy x (by simp [hx]))
    split
    · exact Nat.xor_lt_two_pow (n := 8) ho (hy y (by simp))
    · exact ho
theorem bitsL_lt : ∀ (n a b : Nat), b < 256 → ∀ x ∈ bitsL n a b, x.2 < 256
  | 0, _, _, _, x, hx => by simp [bitsL] at hx
  | n + 1, a, b, hb, x, hx => by
    rw [bitsL] at hx
    split at hx
    · simp at hx
    · rcases List.mem_cons.1 hx with rfl | hx
      · exact hb
      · exact bitsL_lt n _ _ (tw_lt hb) x hx
def mulN (a b : Nat) : Nat := accL (bitsL 8 a b)
set_option maxRecDepth 100000 in
set_option maxHeartbeats 1000000 in
theorem mul_any (a b : Nat) (ha : a < 256) (hb : b < 256) (w : World) :
    Calls Try.prog 72 #[.int .u8 (a : Int), .int .u8 (b : Int)] w fun e w' => e = .returned (.int .u8 ((mulN a b : Nat) : Int)) ∧ Below w.heap.size w w' := by
  refine (callsIn_wide (n := 0)).1 ?_
  refine callsIn_of_wp_marks Try.func72 rfl trivial ?_ rfl
  simp only [Try.ntmps72, List.size_toArray, List.length_cons, List.length_nil, Nat.reduceAdd, Nat.reduceSub, Array.replicate_succ, Array.replicate_zero, List.push_toArray, List.append_toArray, List.nil_append, List.cons_append]
  gi_wp2_with fail
  refine (callsIn_wide.2 (bits_any a b _)).mono ?_
  rintro e w1 ⟨rfl, rfl⟩
  gi_wp2_with fail
  obtain ⟨W0, hW0⟩ : ∃ W0, (((w.alloc (Obj.cells #[Value.int IntKind.u8 0] 5)).alloc (Obj.cells #[Value.int IntKind.u8 ↑a] 5)).alloc (Obj.cells #[Value.int IntKind.u8 ↑b] 5)) = W0 := ⟨_, rfl⟩
  rw [hW0]
  have z0 : W0.heap.size = w.heap.size + 3 := by rw [← hW0]; simp
  have bW : Below w.heap.size w W0 := by rw [← hW0]; exact (((Below.refl _ _).alloc (Nat.le_refl _) _).alloc (by simp) _).alloc (by simp; omega) _
  have c0 : Boxed W0 w.heap.size 5 (.int .u8 0) := by rw [← hW0]; exact ((Boxed.new _ _ _).alloc _).alloc _
  have fa : W0.cell? ⟨w.heap.size + 1, 0, none⟩ = some (.int .u8 (a : Int)) := by rw [← hW0]; clear hW0; go_simp
  have fb : W0.cell? ⟨w.heap.size + 1 + 1, 0, none⟩ = some (.int .u8 (b : Int)) := by rw [← hW0]; clear hW0; go_simp
  have za : W0.frozen? ⟨w.heap.size + 1, 0, none⟩ = false := by rw [← hW0]; clear hW0; go_simp
  have zb : W0.frozen? ⟨w.heap.size + 1 + 1, 0, none⟩ = false := by rw [← hW0]; clear hW0; go_simp
  clear hW0
  refine range_c (gf := 93) rfl (fun _ _ => rfl) (bits1_c (w.heap.size + 1) (w.heap.size + 1 + 1) (w.heap.size + 3) a b (by omega) (by omega) (by omega) ha hb W0 fa fb za zb (by omega))
    (fun h k => ⟨Nat.le_trans h.size k.size, k.a.trans h.a, k.b.trans h.b⟩) (fun W l o o' hl h _ _ => ⟨by simp, World.putObj_heap_other (by omega), World.putObj_heap_other (by omega)⟩) (fun A B h => ⟨Nat.le_of_eq h.size.symm, h.cells⟩) (Below.refl _ _) (fun _ => rfl)
    (fun pre W => Below w.heap.size w W ∧ Boxed W w.heap.size 5 (.int .u8 ((accL pre : Nat) : Int))) (fun _ _ _ => False) ?_ ?_ ?_ ?_ ⟨bW, c0⟩ ?_ ?_ ?_
  · rintro pre X Y row ⟨h1, h2⟩ hg hr
    refine ⟨h1.grown hg h1.size (fun k e => ?_), h2.kept hg (fun e => ?_)⟩
    · have := (hr k e).1; omega
    · have := (hr _ e.symm).1; omega
  · intro c s W W' row h; exact h.elim
  · rintro pre X Y hs ⟨h1, h2⟩
    refine ⟨h1.trans ⟨hs.os, hs.tape, hs.output, Nat.le_of_eq hs.size.symm, fun k hk => hs.block k (by omega) (by omega)⟩, ?_⟩
    exact (hs.block _ (by omega) (by omega)).trans h2
  · intro c pre A B _ h; exact h
  · rintro l pre x W ⟨hb1, hbx⟩ hlen hsp hsz
    have d0 := hbx.cell
    have d1 := hbx.frozen
    have hall := bitsL_lt 8 a b hb
    have hx2 : x.2 < 256 := hall x (hsp.subset (by simp))
    have hacc : accL pre < 256 := accL_lt (fun y hy => hall y (hsp.subset (by simp [hy])))
    have hxor : bits BinOp.xor IntKind.u8 ((accL pre : Nat) : Int) (x.2 : Int) = ((accL pre ^^^ x.2 : Nat) : Int) := u8_xor_nat _ _ hacc hx2
    have hsn := accL_snoc pre x
    replace hsn := hide hsn
    gi_wp2_with fail
    refine ⟨KeepsOthers.alloc _ _, ⟨by simp, Below.heap_alloc _ _ _ (by omega), Below.heap_alloc _ _ _ (by omega)⟩, fun X => (Below w.heap.size w X ∧ Boxed X w.heap.size 5 (.int .u8 ((accL pre : Nat) : Int))) ∧ X.heap[W.heap.size]? = some (.cells #[.bool x.1, .int .u8 (x.2 : Int)] 138 (0, 0)), ?_, ⟨⟨hb1.alloc hb1.size _, hbx.alloc _⟩, heap_alloc_new _ _⟩, ?_⟩
    · rintro X Y row ⟨⟨h1, h2⟩, h3⟩ hg hr
      refine ⟨⟨h1.grown hg h1.size (fun k e => ?_), h2.kept hg (fun e => ?_)⟩, (hg.block _ (Array.getElem?_eq_some_iff.1 h3).1 (fun e => ?_)).trans h3⟩
      · have := (hr k e).1; omega
      · have := (hr _ e.symm).1; omega
      · obtain ⟨_, o, ho, hc⟩ := hr _ e.symm
        rw [h3] at ho
        cases ho
        simp [Obj.isCells] at hc
    · rintro W₂ ⟨⟨h1, h2⟩, h3⟩ h4
      have e0 := h2.cell
      have e1 := h2.frozen
      have e2 : W₂.cell? ⟨W.heap.size, 0, none⟩ = some (.bool x.1) := by simp [World.cell?, h3]
      have e3 : W₂.cell? ⟨W.heap.size, 1, none⟩ = some (.int .u8 (x.2 : Int)) := by simp [World.cell?, h3]
      by_cases hx1 : x.1 = true
      · gi_wp2
        refine ⟨KeepsOthers.setCell _ _ _, ⟨by simp [World.setCell], Below.heap_setCell _ _ _ _ (by simp), Below.heap_setCell _ _ _ _ (by simp; omega)⟩, h1.setCell (by simp) _, ?_⟩
        rw [(unhide hsn), if_pos hx1]
        exact h2.set _
      · gi_wp2
        refine ⟨KeepsOthers.refl _, ⟨Nat.le_refl _, rfl, rfl⟩, h1, ?_⟩
        rw [(unhide hsn), if_neg hx1]
        exact h2
  · rintro D xs W hDl rfl ⟨hb1, hbx⟩ hD
    have d0 := hbx.cell
    have d1 := hbx.frozen
    gi_wp2_with fail
    refine ⟨by simp, .inl ⟨_, _, rfl, run_takeDeferred hD, ?_⟩⟩
    exact ⟨_, results_tmp rfl _ _ _, rfl, hb1.trans (belowK_b (w := W0) (by omega) W D _ _ hDl hD rfl rfl)⟩
  · intro D c pre W _ _ h; exact h.elim
end Go.Proofs.Ytodbmgafejclmaa.Base
