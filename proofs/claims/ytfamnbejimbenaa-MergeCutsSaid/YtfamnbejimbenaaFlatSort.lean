/- Rows of points in one block: the sort's words for them. -/
import Derived.Test.YtfamnbejimbenaaFlat
import Derived.Shelf.SlSortCmp.NoneTotal
namespace Go.Proofs.Ytfamnbejimbenaa.X
open Go.RowKit Go.Shelf Go.Sort Go.Proofs.Ytfamnbejimbenaa.G Go.Proofs.YtfamnbejimbenaaW.PrintWords Go.Proofs.YtfamnbejimbenaaW.PrintLast Go.Proofs.YtfamnbejimbenaaW.PrintMore

/-! The sort's word. -/
theorem holds_of_row {w : World} {g cap : Nat} {xs : List S24} (h : Row w g cap xs) : HoldsK encR 3 w g 0 xs.toArray := by
  intro j hj
  rw [size_flatK] at hj
  have hj' : j < xs.length * 3 := by simpa using hj
  rw [get_flatK _ _ _ _ hj, Nat.zero_add]
  refine ⟨?_, h.free j⟩
  obtain ⟨i, hji⟩ : ∃ i, j = i * 3 ∨ j = i * 3 + 1 ∨ j = i * 3 + 2 := ⟨j / 3, by omega⟩
  have hi : i < xs.length := by omega
  obtain ⟨c0, c1, c2⟩ := h.cell (List.getElem?_eq_getElem hi)
  have e : xs.toArray[i]! = xs[i] := by simp [hi]
  rcases hji with rfl | rfl | rfl
  · rw [show i * 3 / 3 = i by omega, show i * 3 % 3 = 0 by omega, e]
    exact c0
  · rw [show (i * 3 + 1) / 3 = i by omega, show (i * 3 + 1) % 3 = 1 by omega, e]
    exact c1
  · rw [show (i * 3 + 2) / 3 = i by omega, show (i * 3 + 2) % 3 = 2 by omega, e]
    exact c2
theorem row_sorted {w : World} {g cap : Nat} {xs : List S24} (h : Row w g cap xs) (n : Nat) (d : Array S24) (os : Array Obj) (hd : d.size = xs.length) :
    Row (sortWorldK encR 3 w g 0 n d os) g cap d.toList ∧ w.grownBy (sortWorldK encR 3 w g 0 n d os) (some g) := by
  have hlt := h.lt
  obtain ⟨cur, hb, h1, h2, h3, hc⟩ := h
  constructor
  · refine ⟨putCells id 0 (flatK encR 3 d) cur, ?_, by simpa [hd] using h1, h2, by simpa [putCells] using h3, fun i x hi => ?_⟩
    · show (grow (putRow id (Sort.ahead w n) g 0 (flatK encR 3 d)) os).heap[g]? = _
      rw [heap_grow_old _ _ (by simpa using hlt)]
      simp [putRow, mapBlock, Sort.ahead, Array.getElem?_modify, hb, onCells]
    · have hi' : i < d.size := by simpa using (List.getElem?_eq_some_iff.1 hi).1
      have e : d[i]! = x := by
        have := (List.getElem?_eq_some_iff.1 hi).2
        simpa [hi'] using this
      have f0 := get_flatK encR 3 d (i * 3) (by omega)
      have f1 := get_flatK encR 3 d (i * 3 + 1) (by omega)
      have f2 := get_flatK encR 3 d (i * 3 + 2) (by omega)
      rw [show i * 3 / 3 = i by omega, show i * 3 % 3 = 0 by omega, e] at f0
      rw [show (i * 3 + 1) / 3 = i by omega, show (i * 3 + 1) % 3 = 1 by omega, e] at f1
      rw [show (i * 3 + 2) / 3 = i by omega, show (i * 3 + 2) % 3 = 2 by omega, e] at f2
      have b0 : i * 3 < cur.size := by omega
      have b1 : i * 3 + 1 < cur.size := by omega
      have b2 : i * 3 + 2 < cur.size := by omega
      refine ⟨?_, ?_, ?_⟩
      · simp only [putCells, Array.getElem?_mapIdx, Array.getElem?_eq_getElem b0, Option.map_some, size_flatK]
        rw [if_pos ⟨Nat.zero_le _, by omega⟩, Nat.sub_zero, f0]
        rfl
      · simp only [putCells, Array.getElem?_mapIdx, Array.getElem?_eq_getElem b1, Option.map_some, size_flatK]
        rw [if_pos ⟨Nat.zero_le _, by omega⟩, Nat.sub_zero, f1]
        rfl
      · simp only [putCells, Array.getElem?_mapIdx, Array.getElem?_eq_getElem b2, Option.map_some, size_flatK]
        rw [if_pos ⟨Nat.zero_le _, by omega⟩, Nat.sub_zero, f2]
        rfl
  · refine ⟨rfl, rfl, rfl, by simp [sortWorldK, putRowK], fun k hk hne => ?_⟩
    show (grow (putRow id (Sort.ahead w n) g 0 (flatK encR 3 d)) os).heap[k]? = _
    rw [heap_grow_old _ _ (by simpa using hk)]
    have : g ≠ k := fun e => hne (by rw [e])
    simp [putRow, mapBlock, Sort.ahead, Array.getElem?_modify, this]
end Go.Proofs.Ytfamnbejimbenaa.X
