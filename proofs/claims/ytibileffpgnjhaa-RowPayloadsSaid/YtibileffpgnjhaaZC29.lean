/-
  Parts of a proof, laid together by a program of mine (pack.py): Ko.
-/
import Derived.Test.YtibileffpgnjhaaZC28
namespace Go.Proofs.Ytibileffpgnjhaa.Base
open Go.RowKit Go.Maps Go.Proofs.YtibileffpgnjhaaW.PrintWords Go.Proofs.YtibileffpgnjhaaW.PrintLast
set_option linter.unusedSimpArgs false
set_option linter.unusedVariables false
def blanks : List Pg := List.replicate 6 (0, none, 0, [])
def blankCells : Array Value := #[.int .i64 0, .slice none 0 0, .int .i64 0, .slice none 0 0, .int .i64 0, .slice none 0 0, .int .i64 0, .slice none 0 0, .int .i64 0, .slice none 0 0, .int .i64 0, .slice none 0 0]
theorem run_mk6 (w : World) : (Instr.makeSlice 40 (.int .i64 6) (.int .i64 6)).run Try.prog w = .ok (.slice (some ⟨w.heap.size, 0, none⟩) 6 6) (w.alloc (.cells blankCells 56)) := by kernel_rfl
theorem sl_blanks (w : World) : Sl (w.alloc (.cells blankCells 56)) 0 (w.alloc (.cells blankCells 56)).heap.size 2 (some ⟨w.heap.size, 0, none⟩) (blanks.map Pg.arr) :=
  Sl.of_rd (fun x hx => by obtain ⟨p, hp, rfl⟩ := List.mem_map.1 hx; rfl) ((rd_new_whole _ _ _ _ _ _ rfl rfl).trans rfl) (Nat.zero_le _) (by simp)
attribute [local go_sem] run_mk6
set_option maxRecDepth 100000 in
set_option maxHeartbeats 2000000 in
theorem known_any (w : World) : Calls Try.prog 10 #[] w fun x w' => x = .returned (.bool true) ∧ Below w.heap.size w w' := by
  have hcon := decode_early 0 0 1 (some ⟨w.heap.size, 0, none⟩) 6 blanks _ (by intro p hp; rw [List.eq_of_mem_replicate hp]; exact ⟨by omega, by omega⟩) ⟨by decide, by decide⟩ ⟨by omega, by omega⟩ (by decide) (sl_blanks w) (.inl (by decide))
  have hE : early blanks = 2 := by decide
  rw [hE] at hcon
  have hlb : blanks.length = 6 := rfl
  rw [hlb] at hcon
  replace hE := hide hE
  replace hlb := hide hlb
  go_enter Try.func10, Try.ntmps10
  go_wp2_with fail
  (with_reducible refine hcon.mono ?_)
  rintro e w1 ⟨rfl, hb1⟩
  go_wp2_with fail
  obtain ⟨W1, hW1⟩ : ∃ W1, w1.alloc (Obj.cells #[.int .i64 0, .int .i64 0, .slice none 0 0] 37) = W1 := ⟨_, rfl⟩
  rw [hW1]
  have hb2 : Below w.heap.size w W1 := by
    rw [← hW1]
    have := ((Below.refl w.heap.size w).alloc (Nat.le_refl _) (.cells blankCells 56)).trans (hb1.mono (by simp))
    exact this.alloc this.size _
  refine (encode_all 6 1 0 0 none 0 [] W1 ⟨by omega, by omega⟩ (by simp) (fun e he => by simp at he) (by simp) Sl.nil).mono ?_
  rintro x w3 ⟨hx, hb3⟩
  have hbF := hb2.trans (hb3.mono hb2.size)
  rcases hx with ⟨_, n, A', c', T, hn, rfl, _⟩ | ⟨hno, _⟩
  · have h4 : n = 4 := by omega
    subst h4
    clear hW1
    go_wp2_with fail
    go_ret
    exact ⟨rfl, hbF⟩
  · exact absurd ⟨⟨by omega, by omega, by omega, by omega, by omega, by omega, by omega, by omega, by simp⟩, fun e he => by simp at he⟩ hno
end Go.Proofs.Ytibileffpgnjhaa.Base
