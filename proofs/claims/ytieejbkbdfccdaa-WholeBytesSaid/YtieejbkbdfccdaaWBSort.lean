/- WholeBytes: the library's sort of texts over a row that the program owns. -/
import Derived.Test.YtieejbkbdfccdaaShelf
import Derived.Test.YtieejbkbdfccdaaBase
import Derived.Test.YtieejbkbdfccdaaPrims4
set_option linter.unusedVariables false
set_option linter.unusedSimpArgs false
namespace Go.Proofs.Ytieejbkbdfccdaa
open Go Go.Sort Go.RowKit

theorem sort_spec {w : World} {base : Nat} {v : Value} {ss : List (List UInt8)} (h : w.ownsRow base 9 1 v ss.length (ss.map strB)) (h0 : 0 < ss.length) (hn : ss.length < 4611686018427387904) :
    Ret P 7 #[v] w fun x w' => x = .tuple #[] ∧ w'.ownsRow base 9 1 v ss.length ((ss.mergeSort fun x y => decide (x ≤ y)).map strB) ∧ Fr v.ownBlock.toList w w' := by
  obtain ⟨hl, h | ⟨g, cap, cur, rfl, hb, hg, hnc, hcm, hcs, ht⟩⟩ := id h
  · omega
  have hlt : g < w.heap.size := (Array.getElem?_eq_some_iff.1 hg).1
  have hH : Holds encStr w g 0 ss.toArray := by
    intro j hj
    have hj2 : j < ss.length := by simpa using hj
    refine ⟨?_, ?_⟩
    · have hj3 : (cur.toList.take (ss.length * 1))[j]? = (ss.map strB)[j]? := by rw [ht]
      rw [List.getElem?_take, if_pos (by omega), List.getElem?_map, List.getElem?_eq_getElem hj2] at hj3
      rw [cell_mm]
      simp only [mm, hg, Nat.zero_add]
      rw [hj3]
      simp [hj2, strB]
    · simp [World.frozen?, hg]
  refine (Try.slices_Sort_string g 0 cap ss w hH hlt hn).mono ?_
  rintro e w' ⟨rfl, n, os, rfl⟩
  refine ⟨_, rfl, rfl, ⟨by simp, .inr ⟨g, cap, putCells encStr 0 (ss.mergeSort fun x y => decide (x ≤ y)).toArray cur, rfl, hb, ?_, hnc, hcm, ?_, ?_⟩⟩, ?_, ?_, ?_, ?_⟩
  · simp only [grow, putRow, mapBlock, Sort.ahead]
    rw [Array.getElem?_append_left (by simpa using hlt), Array.getElem?_modify, if_pos rfl, hg]
    rfl
  · rw [← hcs]; simp [putCells]
  · apply List.ext_getElem?
    intro i
    rw [List.getElem?_take]
    by_cases hi : i < ss.length
    · rw [if_pos (by omega)]
      have hic : i < cur.size := by omega
      have hil : i < (ss.mergeSort fun x y => decide (x ≤ y)).length := by simpa using hi
      simp only [putCells, Array.getElem?_toList, Array.getElem?_mapIdx, Array.getElem?_eq_getElem hic, Option.map_some, List.getElem?_map, List.getElem?_eq_getElem hil]
      rw [if_pos ⟨by omega, by simpa using hi⟩]
      simp only [Nat.sub_zero]
      rw [getElem!_pos _ i (by simpa using hi)]
      rfl
    · rw [if_neg (by omega)]
      rw [List.getElem?_eq_none]
      simpa using hi
  · rfl
  · rfl
  · simp [sz, grow, putRow, mapBlock, Sort.ahead]
  · intro b hb hS
    have hne : g ≠ b := by
      rintro rfl
      exact hS (by simp [Value.ownBlock])
    simp only [grow, putRow, mapBlock, Sort.ahead]
    rw [Array.getElem?_append_left (by simpa [sz] using hb), Array.getElem?_modify, if_neg hne]
end Go.Proofs.Ytieejbkbdfccdaa
