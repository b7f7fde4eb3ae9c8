/- Rows of points in one block: what a block holds, written and read, and the print's words for it. -/
import Derived.Test.YtfamnbejimbenaaGx0
import Derived.Sort.Row
namespace Go.Proofs.Ytfamnbejimbenaa.X
open Go.RowKit Go.Sort Go.Proofs.Ytfamnbejimbenaa.G Go.Proofs.YtfamnbejimbenaaW.PrintWords Go.Proofs.YtfamnbejimbenaaW.PrintLast Go.Proofs.YtfamnbejimbenaaW.PrintMore

instance : Inhabited S24 := ⟨z24⟩
def encR (x : S24) : List Value := [.int .i64 x.f0, .int .u64 x.f1, .int .u64 x.f2]
/-- Block g of w begins with the points xs; it has room for cap. -/
def Row (w : World) (g cap : Nat) (xs : List S24) : Prop :=
  ∃ cur : Array Value, w.heap[g]? = some (.cells cur 24 (0, 0)) ∧ xs.length ≤ cap ∧ cap ≤ maxLen ∧ cur.size = cap * 3 ∧ ∀ i x, xs[i]? = some x → cur[i * 3]? = some (.int .i64 x.f0) ∧ cur[i * 3 + 1]? = some (.int .u64 x.f1) ∧ cur[i * 3 + 2]? = some (.int .u64 x.f2)
theorem Row.lt {w : World} {g cap : Nat} {xs : List S24} (h : Row w g cap xs) : g < w.heap.size := by
  obtain ⟨cur, hb, _⟩ := h
  exact (Array.getElem?_eq_some_iff.1 hb).1
theorem Row.move {w w' : World} {g cap : Nat} {xs : List S24} (h : Row w g cap xs) (hm : w'.heap[g]? = w.heap[g]?) : Row w' g cap xs := by
  obtain ⟨cur, hb, r⟩ := h
  exact ⟨cur, hm.trans hb, r⟩
theorem Row.below {w w' : World} {g cap : Nat} {xs : List S24} (h : Row w g cap xs) (hb : Below w.heap.size w w') : Row w' g cap xs := h.move (hb.block g h.lt)
theorem Row.cell {w : World} {g cap : Nat} {xs : List S24} (h : Row w g cap xs) {i : Nat} {x : S24} (hi : xs[i]? = some x) : w.cell? ⟨g, i * 3, none⟩ = some (.int .i64 x.f0) ∧ w.cell? ⟨g, i * 3 + 1, none⟩ = some (.int .u64 x.f1) ∧ w.cell? ⟨g, i * 3 + 2, none⟩ = some (.int .u64 x.f2) := by
  obtain ⟨cur, hb, _, _, _, hc⟩ := h
  exact ⟨(cell_of_row w g _ cur _ _ hb).trans (hc i x hi).1, (cell_of_row w g _ cur _ _ hb).trans (hc i x hi).2.1, (cell_of_row w g _ cur _ _ hb).trans (hc i x hi).2.2⟩
theorem Row.free {w : World} {g cap : Nat} {xs : List S24} (h : Row w g cap xs) (j : Nat) : w.frozen? ⟨g, j, none⟩ = false := by
  obtain ⟨cur, hb, _⟩ := h
  simp [World.frozen?, hb]
theorem Row.take {w : World} {g cap : Nat} {xs : List S24} (h : Row w g cap xs) (m : Nat) : Row w g cap (xs.take m) := by
  obtain ⟨cur, hb, h1, h2, h3, hc⟩ := h
  refine ⟨cur, hb, by rw [List.length_take]; omega, h2, h3, fun i x hi => hc i x ?_⟩
  rw [List.getElem?_take] at hi
  split at hi
  · exact hi
  · cases hi
theorem Row.le {w : World} {g cap : Nat} {xs : List S24} (h : Row w g cap xs) : xs.length ≤ cap ∧ cap ≤ 9223372036854775807 := by
  obtain ⟨cur, hb, h1, h2, h3, hc⟩ := h
  unfold maxLen at h2
  exact ⟨h1, h2⟩
/-- One element written: its three cells. -/
theorem Row.set {w : World} {g cap : Nat} {xs : List S24} (h : Row w g cap xs) (i : Nat) (x : S24) : Row (((w.setCell ⟨g, i * 3, none⟩ (.int .i64 x.f0)).setCell ⟨g, i * 3 + 1, none⟩ (.int .u64 x.f1)).setCell ⟨g, i * 3 + 2, none⟩ (.int .u64 x.f2)) g cap (xs.set i x) := by
  obtain ⟨cur, hb, h1, h2, h3, hc⟩ := h
  refine ⟨((cur.setIfInBounds (i * 3) (.int .i64 x.f0)).setIfInBounds (i * 3 + 1) (.int .u64 x.f1)).setIfInBounds (i * 3 + 2) (.int .u64 x.f2), ?_, by rw [List.length_set]; exact h1, h2, by simpa using h3, fun k y hk => ?_⟩
  · rw [setCell_eq, setCell_eq, setCell_eq]
    simp [mapBlock, Array.getElem?_modify, hb, onCells]
  · by_cases e : i = k
    · subst e
      have hl : i < xs.length := by
        rcases Nat.lt_or_ge i xs.length with h' | h'
        · exact h'
        · rw [List.getElem?_eq_none (by rw [List.length_set]; exact h')] at hk; cases hk
      rw [List.getElem?_set_self hl] at hk
      obtain rfl := Option.some.inj hk
      refine ⟨?_, ?_, ?_⟩
      · rw [Array.getElem?_setIfInBounds_ne (by omega), Array.getElem?_setIfInBounds_ne (by omega), Array.getElem?_setIfInBounds_self_of_lt (by omega)]
      · rw [Array.getElem?_setIfInBounds_ne (by omega), Array.getElem?_setIfInBounds_self_of_lt (by simp; omega)]
      · rw [Array.getElem?_setIfInBounds_self_of_lt (by simp; omega)]
    · rw [List.getElem?_set_ne e] at hk
      refine ⟨?_, ?_, ?_⟩
      · rw [Array.getElem?_setIfInBounds_ne (by omega), Array.getElem?_setIfInBounds_ne (by omega), Array.getElem?_setIfInBounds_ne (by omega)]; exact (hc k y hk).1
      · rw [Array.getElem?_setIfInBounds_ne (by omega), Array.getElem?_setIfInBounds_ne (by omega), Array.getElem?_setIfInBounds_ne (by omega)]; exact (hc k y hk).2.1
      · rw [Array.getElem?_setIfInBounds_ne (by omega), Array.getElem?_setIfInBounds_ne (by omega), Array.getElem?_setIfInBounds_ne (by omega)]; exact (hc k y hk).2.2
theorem grownBy_set (w : World) (g j : Nat) (v : Value) : w.grownBy (w.setCell ⟨g, j, none⟩ v) (some g) := by
  refine ⟨rfl, rfl, rfl, by rw [setCell_eq]; simp [mapBlock], fun k hk hne => ?_⟩
  have : g ≠ k := fun e => hne (by rw [e])
  rw [setCell_eq]
  simp [mapBlock, Array.getElem?_modify, this]

/-! The print's word. -/
theorem row_of_R {w : World} {base : Nat} {ok : Nat → Prop} {v : Value} {xs : List S24} (h : Kd.R k24 24 w base ok v xs) : (v = .slice none 0 0 ∧ xs = []) ∨ ∃ g cap, v = .slice (some ⟨g, 0, none⟩) xs.length cap ∧ base ≤ g ∧ Row w g cap xs := by
  obtain ⟨_, inner, ho, hr⟩ := h
  rcases ho.2 with ⟨rfl, hn⟩ | ⟨g, cap, cur, rfl, hb, hh, h1, h2, h3, h4⟩
  · exact .inl ⟨rfl, List.eq_nil_of_length_eq_zero hn⟩
  · refine .inr ⟨g, cap, rfl, hb, cur, hh, h1, h2, h3, fun i x hi => ?_⟩
    have hi' : i < xs.length := (List.getElem?_eq_some_iff.1 hi).1
    have e := k24_openM (hr.2 i x hi)
    have e' : ((inner.drop (i * 3)).take 3) = [.int .i64 x.f0, .int .u64 x.f1, .int .u64 x.f2] := e
    have a0 : inner[i * 3]? = some (.int .i64 x.f0) := by
      have := congrArg (fun l => l[0]?) e'
      simpa [List.getElem?_take, List.getElem?_drop] using this
    have a1 : inner[i * 3 + 1]? = some (.int .u64 x.f1) := by
      have := congrArg (fun l => l[1]?) e'
      simpa [List.getElem?_take, List.getElem?_drop] using this
    have a2 : inner[i * 3 + 2]? = some (.int .u64 x.f2) := by
      have := congrArg (fun l => l[2]?) e'
      simpa [List.getElem?_take, List.getElem?_drop] using this
    have hh4 : cur.toList.take (xs.length * 3) = inner := h4
    rw [← hh4, List.getElem?_take_of_lt (by omega), Array.getElem?_toList] at a0 a1 a2
    exact ⟨a0, a1, a2⟩
theorem R_of_row {w : World} {base g cap : Nat} {xs : List S24} {ok : Nat → Prop} (h : Row w g cap xs) (hb : base ≤ g) (hok : ok g) : Kd.R k24 24 w base ok (.slice (some ⟨g, 0, none⟩) xs.length cap) xs := by
  obtain ⟨cur, hh, h1, h2, h3, hc⟩ := h
  have hl : (cur.toList.take (xs.length * 3)).length = xs.length * 3 := by
    have e : cur.toList.length = cur.size := Array.length_toList
    rw [List.length_take, e, h3]; omega
  refine ⟨fun k hk => by simp only [Value.ownBlock, Option.some.injEq] at hk; exact hk ▸ hok, cur.toList.take (xs.length * 3), ⟨hl, .inr ⟨g, cap, cur, rfl, hb, hh, h1, h2, h3, rfl⟩⟩, hl, fun i x hi => ?_⟩
  have hi' : i < xs.length := (List.getElem?_eq_some_iff.1 hi).1
  obtain ⟨c0, c1, c2⟩ := hc i x hi
  have e : (((cur.toList.take (xs.length * 3)).drop (i * 3)).take 3) = [.int .i64 x.f0, .int .u64 x.f1, .int .u64 x.f2] := by
    apply List.ext_getElem?
    intro j
    match j with
    | 0 => rw [List.getElem?_take_of_lt (by omega), List.getElem?_drop, List.getElem?_take_of_lt (by omega), Array.getElem?_toList, Nat.add_zero, c0]; rfl
    | 1 => rw [List.getElem?_take_of_lt (by omega), List.getElem?_drop, List.getElem?_take_of_lt (by omega), Array.getElem?_toList, c1]; rfl
    | 2 => rw [List.getElem?_take_of_lt (by omega), List.getElem?_drop, List.getElem?_take_of_lt (by omega), Array.getElem?_toList, c2]; rfl
    | j + 3 => rw [List.getElem?_take_eq_none (by omega)]; simp
  show k24.M w base _ x (((cur.toList.take (xs.length * 3)).drop (i * 3)).take 3)
  rw [e]
  exact k24_mkM w base _ x
theorem C_of_row {w : World} {g cap : Nat} {xs : List S24} (h : Row w g cap xs) : Kd.C k24 w (some ⟨g, 0, none⟩) xs.length xs := (Kd.R_reads' (R_of_row (base := 0) (ok := fun _ => True) h (Nat.zero_le _) trivial)).2.2

end Go.Proofs.Ytfamnbejimbenaa.X
