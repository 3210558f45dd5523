/-
  The document's buffer (ramekinref17) by the print's contracts, over rows of updates.
-/
import Derived.Test.YtpblhedmfeddbaaKno
import Derived.Test.YtpblhedmfeddbaaLaw
import Derived.Test.YtpblhedmfeddbaaPLtx1
namespace Go.Proofs.Ytpblhedmfeddbaa.Base
open Go.RowKit Go.Proofs.YtpblhedmfeddbaaW.PrintWords
set_option linter.unusedSimpArgs false
set_option linter.unusedVariables false
def toS (e : Ent) : PLt.S29 := ⟨e.k, e.l, e.s, ⟨e.d 0, e.d 1, e.d 2, e.d 3, e.d 4, e.d 5, e.d 6, e.d 7, e.d 8, e.d 9, e.d 10, e.d 11, e.d 12, e.d 13, e.d 14, e.d 15⟩⟩
theorem addr2 (b o k : Nat) : (⟨b, o, none⟩ : Addr).add k = ⟨b, o + k, none⟩ := by
  unfold Addr.add
  split
  · simp_all
  · simp_all
theorem ent_cells (e : Ent) : e.cells = [.int .i64 e.k, .int .i64 e.l, .int .i64 e.s, .int .u8 (e.d 0), .int .u8 (e.d 1), .int .u8 (e.d 2), .int .u8 (e.d 3), .int .u8 (e.d 4), .int .u8 (e.d 5), .int .u8 (e.d 6), .int .u8 (e.d 7), .int .u8 (e.d 8), .int .u8 (e.d 9), .int .u8 (e.d 10), .int .u8 (e.d 11), .int .u8 (e.d 12), .int .u8 (e.d 13), .int .u8 (e.d 14), .int .u8 (e.d 15)] := rfl
theorem ent_arr (e : Ent) : e.arr = #[.int .i64 e.k, .int .i64 e.l, .int .i64 e.s, .int .u8 (e.d 0), .int .u8 (e.d 1), .int .u8 (e.d 2), .int .u8 (e.d 3), .int .u8 (e.d 4), .int .u8 (e.d 5), .int .u8 (e.d 6), .int .u8 (e.d 7), .int .u8 (e.d 8), .int .u8 (e.d 9), .int .u8 (e.d 10), .int .u8 (e.d 11), .int .u8 (e.d 12), .int .u8 (e.d 13), .int .u8 (e.d 14), .int .u8 (e.d 15)] := rfl
theorem C_of_Sl {w : World} {L B : Nat} {A : Option Addr} {es : List Ent} (hm : es.length ≤ 9223372036854775807) (h : Sl w L B 19 A (es.map Ent.arr)) : Kd.C PLt.k29 w A (es.map toS).length (es.map toS) := by
  refine ⟨rfl, by rw [List.length_map]; exact hm, fun hp => ?_⟩
  obtain ⟨b, o, rfl, _, _, hr⟩ := h.pos (by simpa using hp)
  refine ⟨_, rfl, fun j p hj => ?_⟩
  rw [List.getElem?_map] at hj
  obtain ⟨e, he, rfl⟩ := Option.map_eq_some_iff.1 hj
  have hjl : j < es.length := (List.getElem?_eq_some_iff.1 he).1
  have hej : es[j] = e := (List.getElem?_eq_some_iff.1 he).2
  have h1 := hr j (by simpa using hjl)
  simp only [List.getElem_map] at h1
  rw [hej] at h1
  refine ⟨e.cells, e.cells_len, PLt.k29_mk w (toS e), fun i u hu => ?_⟩
  have hi : i < 19 := by have := (List.getElem?_eq_some_iff.1 hu).1; rwa [e.cells_len] at this
  have h2 := rd_cell h1 i hi
  rw [show (⟨b, o, none⟩ : Addr).add (j * PLt.k29.sz + i) = ⟨b, o + j * 19 + i, none⟩ from by rw [show PLt.k29.sz = 19 from rfl, addr2, Nat.add_assoc], h2]
  simpa [Ent.arr] using hu
theorem Sl_of_R {w : World} {base : Nat} {ok : Nat → Prop} {v : Value} {es : List Ent} (h : Kd.R PLt.k29 29 w base ok v (es.map toS)) : ∃ A c, v = .slice A es.length c ∧ es.length ≤ c ∧ Sl w base w.heap.size 19 A (es.map Ent.arr) := by
  obtain ⟨A, c, e, hc, hC⟩ := Kd.R_reads h
  rw [List.length_map] at e hc
  refine ⟨A, c, e, hc, fun hne => ?_⟩
  have hp : 0 < es.length := by
    rcases Nat.eq_zero_or_pos es.length with h0 | h0
    · exact absurd (by rw [List.eq_nil_of_length_eq_zero h0]; rfl) hne
    · exact h0
  obtain ⟨g, cap, ev, hb, hlt, _⟩ := Kd.R_form h (by rw [List.length_map]; exact hp)
  rw [e] at ev
  injection ev with eA _ _
  subst eA
  refine ⟨g, 0, rfl, hb, hlt, fun i hi => ?_⟩
  have hil : i < es.length := by simpa using hi
  obtain ⟨ad, ead, hcell⟩ := hC.2.2 (by rw [List.length_map]; exact hp)
  cases ead
  obtain ⟨cs, hcl, hK, hcc⟩ := hcell i (toS es[i]) (by rw [List.getElem?_map, List.getElem?_eq_getElem hil]; rfl)
  have hcs : cs = es[i].cells := PLt.k29_open hK
  simp only [List.getElem_map]
  have h3 := rd_of_cells (w := w) (b := g) (o := 0 + i * 19) (cs := es[i].arr) (by rw [Ent.arr_size]; omega) (fun j hj => by
    rw [Ent.arr_size] at hj
    have h4 := hcc j (es[i].cells[j]'(by rw [Ent.cells_len]; exact hj)) (by rw [hcs, List.getElem?_eq_getElem])
    rw [show (⟨g, 0, none⟩ : Addr).add (i * PLt.k29.sz + j) = ⟨g, 0 + i * 19 + j, none⟩ from by rw [show PLt.k29.sz = 19 from rfl, addr2, Nat.add_assoc]] at h4
    rw [h4]
    simp [Ent.arr, List.getElem?_eq_getElem (show j < es[i].cells.length by rw [Ent.cells_len]; exact hj)])
  rw [Ent.arr_size] at h3
  exact h3
theorem rtake_n (A : Option Addr) (N c : Nat) (next n : Int) (w : World) (es : List Ent) (hN : es.length = N) (hc : N ≤ c) (hn : N ≤ 1000000) (hs : Sl w 0 w.heap.size 19 A (es.map Ent.arr)) (m : Nat) (hm : (m : Int) = min (max n 0) N) :
    Calls Try.prog 21 #[.agg #[.slice A N c, .int .i64 next], .int .i64 n] w fun e' w' =>
      (∃ A' A2 c' c2, e' = .returned (.tuple #[.agg #[.slice A' (N - m) c', .int .i64 next], .slice A2 m c2]) ∧ N - m ≤ c' ∧ m ≤ c2 ∧
         Sl w' w.heap.size w'.heap.size 19 A' ((es.drop m).map Ent.arr) ∧ Sl w' w.heap.size w'.heap.size 19 A2 ((es.take m).map Ent.arr)) ∧ Below w.heap.size w w' := by
  subst hN
  have hml : m ≤ es.length := by omega
  have hmx : Go.Proofs.YtpblhedmfeddbaaW.PrintWords.mx 0 (Go.Proofs.YtpblhedmfeddbaaW.PrintWords.mn n ((es.map toS).length : Int)) = (m : Int) := by
    rw [List.length_map]
    unfold Go.Proofs.YtpblhedmfeddbaaW.PrintWords.mx Go.Proofs.YtpblhedmfeddbaaW.PrintWords.mn
    split <;> split <;> omega
  have hf : PLt.ramekinref17_Take.f (es.map toS) next n = some ((es.drop m).map toS, next, (es.take m).map toS) := by
    unfold PLt.ramekinref17_Take.f
    rw [hmx]
    simp only [Option.bind_some, List.length_nil, List.nil_append, List.length_map, Nat.zero_add, Int.toNat_natCast]
    rw [if_pos (by omega), if_pos (by omega), if_pos (by rw [List.length_drop, List.length_map]; omega), if_pos (by rw [List.length_take, List.length_map]; omega), List.map_drop, List.map_take]
  have h := PLt.ramekinref17_Take.calls A c (es.map toS) next n _ _ _ w (C_of_Sl (by omega) hs) (by rw [List.length_map]; exact hc) hf
  rw [List.length_map] at h
  refine h.mono ?_
  rintro e' w' ⟨v0, v2, rfl, hR0, hR2, hb⟩
  obtain ⟨A', c', rfl, hc', hS⟩ := Sl_of_R hR0
  obtain ⟨A2, c2, rfl, hc2, hS2⟩ := Sl_of_R hR2
  have l1 : (es.drop m).length = es.length - m := by simp
  have l2 : (es.take m).length = m := by simp; omega
  rw [l1] at hc'
  rw [l2] at hc2
  exact ⟨⟨A', A2, c', c2, by rw [l1, l2], hc', hc2, hS, hS2⟩, hb⟩
end Go.Proofs.Ytpblhedmfeddbaa.Base
