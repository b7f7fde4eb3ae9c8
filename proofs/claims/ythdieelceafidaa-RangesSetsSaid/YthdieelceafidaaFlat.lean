/- Rows of ranges in one block: what a block holds, written and read, and the print's and the sort's words for it. -/
import Derived.Test.YthdieelceafidaaGx0
import Derived.Shelf.SlSortCmp.NoneTotal
namespace Go.Proofs.Ythdieelceafidaa.X
open Go.RowKit Go.Shelf Go.Sort Go.Proofs.Ythdieelceafidaa.G Go.Proofs.YthdieelceafidaaW.PrintWords Go.Proofs.YthdieelceafidaaW.PrintLast Go.Proofs.YthdieelceafidaaW.PrintMore

instance : Inhabited S24 := ⟨z24⟩
def encR (x : S24) : List Value := [.int .i64 x.f0, .int .i64 x.f1]
/-- Block g of w begins with the ranges xs; it has room for cap. -/
def Row (w : World) (g cap : Nat) (xs : List S24) : Prop :=
  ∃ cur : Array Value, w.heap[g]? = some (.cells cur 24 (0, 0)) ∧ xs.length ≤ cap ∧ cap ≤ maxLen ∧ cur.size = cap * 2 ∧ ∀ i x, xs[i]? = some x → cur[i * 2]? = some (.int .i64 x.f0) ∧ cur[i * 2 + 1]? = some (.int .i64 x.f1)
theorem Row.lt {w : World} {g cap : Nat} {xs : List S24} (h : Row w g cap xs) : g < w.heap.size := by
  obtain ⟨cur, hb, _⟩ := h
  exact (Array.getElem?_eq_some_iff.1 hb).1
theorem Row.move {w w' : World} {g cap : Nat} {xs : List S24} (h : Row w g cap xs) (hm : w'.heap[g]? = w.heap[g]?) : Row w' g cap xs := by
  obtain ⟨cur, hb, r⟩ := h
  exact ⟨cur, hm.trans hb, r⟩
theorem Row.below {w w' : World} {g cap : Nat} {xs : List S24} (h : Row w g cap xs) (hb : Below w.heap.size w w') : Row w' g cap xs := h.move (hb.block g h.lt)
theorem Row.cell {w : World} {g cap : Nat} {xs : List S24} (h : Row w g cap xs) {i : Nat} {x : S24} (hi : xs[i]? = some x) : w.cell? ⟨g, i * 2, none⟩ = some (.int .i64 x.f0) ∧ w.cell? ⟨g, i * 2 + 1, none⟩ = some (.int .i64 x.f1) := by
  obtain ⟨cur, hb, _, _, _, hc⟩ := h
  exact ⟨(cell_of_row w g _ cur _ _ hb).trans (hc i x hi).1, (cell_of_row w g _ cur _ _ hb).trans (hc i x hi).2⟩
theorem Row.free {w : World} {g cap : Nat} {xs : List S24} (h : Row w g cap xs) (j : Nat) : w.frozen? ⟨g, j, none⟩ = false := by
  obtain ⟨cur, hb, _⟩ := h
  simp [World.frozen?, hb]
theorem Row.take {w : World} {g cap : Nat} {xs : List S24} (h : Row w g cap xs) (m : Nat) : Row w g cap (xs.take m) := by
  obtain ⟨cur, hb, h1, h2, h3, hc⟩ := h
  refine ⟨cur, hb, by rw [List.length_take]; omega, h2, h3, fun i x hi => hc i x ?_⟩
  rw [List.getElem?_take] at hi
  split at hi
  · exact hi
  · cases hi
theorem Row.le {w : World} {g cap : Nat} {xs : List S24} (h : Row w g cap xs) : xs.length ≤ cap ∧ cap ≤ 9223372036854775807 := by
  obtain ⟨cur, hb, h1, h2, h3, hc⟩ := h
  unfold maxLen at h2
  exact ⟨h1, h2⟩
/-- One element written: its two cells. -/
theorem Row.set {w : World} {g cap : Nat} {xs : List S24} (h : Row w g cap xs) (i : Nat) (x : S24) : Row ((w.setCell ⟨g, i * 2, none⟩ (.int .i64 x.f0)).setCell ⟨g, i * 2 + 1, none⟩ (.int .i64 x.f1)) g cap (xs.set i x) := by
  obtain ⟨cur, hb, h1, h2, h3, hc⟩ := h
  refine ⟨(cur.setIfInBounds (i * 2) (.int .i64 x.f0)).setIfInBounds (i * 2 + 1) (.int .i64 x.f1), ?_, by rw [List.length_set]; exact h1, h2, by simpa using h3, fun k y hk => ?_⟩
  · rw [setCell_eq, setCell_eq]
    simp [mapBlock, Array.getElem?_modify, hb, onCells]
  · by_cases e : i = k
    · subst e
      have hl : i < xs.length := by
        rcases Nat.lt_or_ge i xs.length with h' | h'
        · exact h'
        · rw [List.getElem?_eq_none (by rw [List.length_set]; exact h')] at hk; cases hk
      rw [List.getElem?_set_self hl] at hk
      obtain rfl := Option.some.inj hk
      constructor
      · rw [Array.getElem?_setIfInBounds_ne (by omega), Array.getElem?_setIfInBounds_self_of_lt (by omega)]
      · rw [Array.getElem?_setIfInBounds_self_of_lt (by simp; omega)]
    · rw [List.getElem?_set_ne e] at hk
      constructor
      · rw [Array.getElem?_setIfInBounds_ne (by omega), Array.getElem?_setIfInBounds_ne (by omega)]; exact (hc k y hk).1
      · rw [Array.getElem?_setIfInBounds_ne (by omega), Array.getElem?_setIfInBounds_ne (by omega)]; exact (hc k y hk).2
theorem grownBy_set (w : World) (g j : Nat) (v : Value) : w.grownBy (w.setCell ⟨g, j, none⟩ v) (some g) := by
  refine ⟨rfl, rfl, rfl, by rw [setCell_eq]; simp [mapBlock], fun k hk hne => ?_⟩
  have : g ≠ k := fun e => hne (by rw [e])
  rw [setCell_eq]
  simp [mapBlock, Array.getElem?_modify, this]

/-! The print's word. -/
theorem row_of_R {w : World} {base : Nat} {ok : Nat → Prop} {v : Value} {xs : List S24} (h : Kd.R k24 24 w base ok v xs) : (v = .slice none 0 0 ∧ xs = []) ∨ ∃ g cap, v = .slice (some ⟨g, 0, none⟩) xs.length cap ∧ base ≤ g ∧ Row w g cap xs := by
  obtain ⟨_, inner, ho, hr⟩ := h
  rcases ho.2 with ⟨rfl, hn⟩ | ⟨g, cap, cur, rfl, hb, hh, h1, h2, h3, h4⟩
  · exact .inl ⟨rfl, List.eq_nil_of_length_eq_zero hn⟩
  · refine .inr ⟨g, cap, rfl, hb, cur, hh, h1, h2, h3, fun i x hi => ?_⟩
    have hi' : i < xs.length := (List.getElem?_eq_some_iff.1 hi).1
    have e := k24_openM (hr.2 i x hi)
    have e' : ((inner.drop (i * 2)).take 2) = [.int .i64 x.f0, .int .i64 x.f1] := e
    have a0 : inner[i * 2]? = some (.int .i64 x.f0) := by
      have := congrArg (fun l => l[0]?) e'
      simpa [List.getElem?_take, List.getElem?_drop] using this
    have a1 : inner[i * 2 + 1]? = some (.int .i64 x.f1) := by
      have := congrArg (fun l => l[1]?) e'
      simpa [List.getElem?_take, List.getElem?_drop] using this
    have hh4 : cur.toList.take (xs.length * 2) = inner := h4
    rw [← hh4, List.getElem?_take_of_lt (by omega), Array.getElem?_toList] at a0 a1
    exact ⟨a0, a1⟩
theorem R_of_row {w : World} {base g cap : Nat} {xs : List S24} {ok : Nat → Prop} (h : Row w g cap xs) (hb : base ≤ g) (hok : ok g) : Kd.R k24 24 w base ok (.slice (some ⟨g, 0, none⟩) xs.length cap) xs := by
  obtain ⟨cur, hh, h1, h2, h3, hc⟩ := h
  have hl : (cur.toList.take (xs.length * 2)).length = xs.length * 2 := by
    have e : cur.toList.length = cur.size := Array.length_toList
    rw [List.length_take, e, h3]; omega
  refine ⟨fun k hk => by simp only [Value.ownBlock, Option.some.injEq] at hk; exact hk ▸ hok, cur.toList.take (xs.length * 2), ⟨hl, .inr ⟨g, cap, cur, rfl, hb, hh, h1, h2, h3, rfl⟩⟩, hl, fun i x hi => ?_⟩
  have hi' : i < xs.length := (List.getElem?_eq_some_iff.1 hi).1
  obtain ⟨c0, c1⟩ := hc i x hi
  have e : (((cur.toList.take (xs.length * 2)).drop (i * 2)).take 2) = [.int .i64 x.f0, .int .i64 x.f1] := by
    apply List.ext_getElem?
    intro j
    match j with
    | 0 => rw [List.getElem?_take_of_lt (by omega), List.getElem?_drop, List.getElem?_take_of_lt (by omega), Array.getElem?_toList, Nat.add_zero, c0]; rfl
    | 1 => rw [List.getElem?_take_of_lt (by omega), List.getElem?_drop, List.getElem?_take_of_lt (by omega), Array.getElem?_toList, c1]; rfl
    | j + 2 => rw [List.getElem?_take_eq_none (by omega)]; simp
  show k24.M w base _ x (((cur.toList.take (xs.length * 2)).drop (i * 2)).take 2)
  rw [e]
  exact k24_mkM w base _ x
theorem C_of_row {w : World} {g cap : Nat} {xs : List S24} (h : Row w g cap xs) : Kd.C k24 w (some ⟨g, 0, none⟩) xs.length xs := (Kd.R_reads' (R_of_row (base := 0) (ok := fun _ => True) h (Nat.zero_le _) trivial)).2.2

/-! The sort's word. -/
theorem holds_of_row {w : World} {g cap : Nat} {xs : List S24} (h : Row w g cap xs) : HoldsK encR 2 w g 0 xs.toArray := by
  intro j hj
  rw [size_flatK] at hj
  have hj' : j < xs.length * 2 := by simpa using hj
  rw [get_flatK _ _ _ _ hj, Nat.zero_add]
  refine ⟨?_, h.free j⟩
  obtain ⟨i, hji⟩ : ∃ i, j = i * 2 ∨ j = i * 2 + 1 := ⟨j / 2, by omega⟩
  have hi : i < xs.length := by omega
  obtain ⟨c0, c1⟩ := h.cell (List.getElem?_eq_getElem hi)
  have e : xs.toArray[i]! = xs[i] := by simp [hi]
  rcases hji with rfl | rfl
  · rw [show i * 2 / 2 = i by omega, show i * 2 % 2 = 0 by omega, e]
    exact c0
  · rw [show (i * 2 + 1) / 2 = i by omega, show (i * 2 + 1) % 2 = 1 by omega, e]
    exact c1
theorem row_sorted {w : World} {g cap : Nat} {xs : List S24} (h : Row w g cap xs) (n : Nat) (d : Array S24) (os : Array Obj) (hd : d.size = xs.length) :
    Row (sortWorldK encR 2 w g 0 n d os) g cap d.toList ∧ w.grownBy (sortWorldK encR 2 w g 0 n d os) (some g) := by
  have hlt := h.lt
  obtain ⟨cur, hb, h1, h2, h3, hc⟩ := h
  constructor
  · refine ⟨putCells id 0 (flatK encR 2 d) cur, ?_, by simpa [hd] using h1, h2, by simpa [putCells] using h3, fun i x hi => ?_⟩
    · show (grow (putRow id (Sort.ahead w n) g 0 (flatK encR 2 d)) os).heap[g]? = _
      rw [heap_grow_old _ _ (by simpa using hlt)]
      simp [putRow, mapBlock, Sort.ahead, Array.getElem?_modify, hb, onCells]
    · have hi' : i < d.size := by simpa using (List.getElem?_eq_some_iff.1 hi).1
      have e : d[i]! = x := by
        have := (List.getElem?_eq_some_iff.1 hi).2
        simpa [hi'] using this
      have f0 := get_flatK encR 2 d (i * 2) (by omega)
      have f1 := get_flatK encR 2 d (i * 2 + 1) (by omega)
      rw [show i * 2 / 2 = i by omega, show i * 2 % 2 = 0 by omega, e] at f0
      rw [show (i * 2 + 1) / 2 = i by omega, show (i * 2 + 1) % 2 = 1 by omega, e] at f1
      have b0 : i * 2 < cur.size := by omega
      have b1 : i * 2 + 1 < cur.size := by omega
      constructor
      · simp only [putCells, Array.getElem?_mapIdx, Array.getElem?_eq_getElem b0, Option.map_some, size_flatK]
        rw [if_pos ⟨Nat.zero_le _, by omega⟩, Nat.sub_zero, f0]
        rfl
      · simp only [putCells, Array.getElem?_mapIdx, Array.getElem?_eq_getElem b1, Option.map_some, size_flatK]
        rw [if_pos ⟨Nat.zero_le _, by omega⟩, Nat.sub_zero, f1]
        rfl
  · refine ⟨rfl, rfl, rfl, by simp [sortWorldK, putRowK], fun k hk hne => ?_⟩
    show (grow (putRow id (Sort.ahead w n) g 0 (flatK encR 2 d)) os).heap[k]? = _
    rw [heap_grow_old _ _ (by simpa using hk)]
    have : g ≠ k := fun e => hne (by rw [e])
    simp [putRow, mapBlock, Sort.ahead, Array.getElem?_modify, this]
end Go.Proofs.Ythdieelceafidaa.X
