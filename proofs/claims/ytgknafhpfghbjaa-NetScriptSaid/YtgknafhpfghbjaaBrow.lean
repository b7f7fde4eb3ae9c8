/- A row of bytes of one's own, as a block. -/
import Derived.Test.YtgknafhpfghbjaaTwo
import Derived.Sort.Row
set_option linter.unusedVariables false
set_option linter.unusedSimpArgs false
namespace Go.Proofs.Ytgknafhpfghbjaa.X
open Go.RowKit Go.Sort Go.Proofs.Ytgknafhpfghbjaa.B Go.Proofs.Ytgknafhpfghbjaa Go.Proofs.YtgknafhpfghbjaaW.PrintWords Go.Proofs.YtgknafhpfghbjaaW.PrintLast Go.Proofs.YtgknafhpfghbjaaW.PrintMore

/-- Block g of w begins with the bytes bs; it has room for c. -/
def BRow (w : World) (g c : Nat) (bs : List Int) : Prop :=
  ∃ cur : Array Value, w.heap[g]? = some (.cells cur 5 (0, 0)) ∧ bs.length ≤ c ∧ c ≤ maxLen ∧ cur.size = c ∧ ∀ (i : Nat) (x : Int), bs[i]? = some x → cur[i]? = some (Value.int .u8 x)
theorem BRow.lt {w : World} {g c : Nat} {bs : List Int} (h : BRow w g c bs) : g < w.heap.size := by
  obtain ⟨cur, hb, _⟩ := h
  exact (Array.getElem?_eq_some_iff.1 hb).1
theorem BRow.move {w w' : World} {g c : Nat} {bs : List Int} (h : BRow w g c bs) (hm : w'.heap[g]? = w.heap[g]?) : BRow w' g c bs := by
  obtain ⟨cur, hb, r⟩ := h
  exact ⟨cur, hm.trans hb, r⟩
theorem BRow.below {w w' : World} {g c : Nat} {bs : List Int} (h : BRow w g c bs) (hb : Below w.heap.size w w') : BRow w' g c bs := h.move (hb.block g h.lt)
theorem BRow.cell {w : World} {g c : Nat} {bs : List Int} (h : BRow w g c bs) {i : Nat} {x : Int} (hi : bs[i]? = some x) : w.cell? ⟨g, i, none⟩ = some (.int .u8 x) := by
  obtain ⟨cur, hb, _, _, _, hc⟩ := h
  exact (cell_of_row w g _ cur _ _ hb).trans (hc i x hi)
theorem BRow.free {w : World} {g c : Nat} {bs : List Int} (h : BRow w g c bs) (j : Nat) : w.frozen? ⟨g, j, none⟩ = false := by
  obtain ⟨cur, hb, _⟩ := h
  simp [World.frozen?, hb]
theorem BRow.le {w : World} {g c : Nat} {bs : List Int} (h : BRow w g c bs) : bs.length ≤ c ∧ c ≤ 9223372036854775807 := by
  obtain ⟨cur, hb, h1, h2, h3, hc⟩ := h
  unfold maxLen at h2
  exact ⟨h1, h2⟩
theorem BRow.set {w : World} {g c : Nat} {bs : List Int} (h : BRow w g c bs) (i : Nat) (x : Int) : BRow (w.setCell ⟨g, i, none⟩ (.int .u8 x)) g c (bs.set i x) := by
  obtain ⟨cur, hb, h1, h2, h3, hc⟩ := h
  refine ⟨cur.setIfInBounds i (.int .u8 x), ?_, by rw [List.length_set]; exact h1, h2, by simpa using h3, fun k y hk => ?_⟩
  · rw [setCell_eq]
    simp [mapBlock, Array.getElem?_modify, hb, onCells]
  · by_cases e : i = k
    · subst e
      have hl : i < bs.length := by
        rcases Nat.lt_or_ge i bs.length with h' | h'
        · exact h'
        · rw [List.getElem?_eq_none (by rw [List.length_set]; exact h')] at hk; cases hk
      rw [List.getElem?_set_self hl] at hk
      obtain rfl := Option.some.inj hk
      rw [Array.getElem?_setIfInBounds_self_of_lt (by omega)]
    · rw [List.getElem?_set_ne e] at hk
      rw [Array.getElem?_setIfInBounds_ne (by omega)]; exact hc k y hk
theorem grownBy_set (w : World) (g j : Nat) (v : Value) : w.grownBy (w.setCell ⟨g, j, none⟩ v) (some g) := by
  refine ⟨rfl, rfl, rfl, by rw [setCell_eq]; simp [mapBlock], fun k hk hne => ?_⟩
  have : g ≠ k := fun e => hne (by rw [e])
  rw [setCell_eq]
  simp [mapBlock, Array.getElem?_modify, this]
theorem brow_of_R {w : World} {base : Nat} {ok : Nat → Prop} {v : Value} {bs : List Int} (h : Kd.R (Kd.int .u8) 5 w base ok v bs) : (v = .slice none 0 0 ∧ bs = []) ∨ ∃ g c, v = .slice (some ⟨g, 0, none⟩) bs.length c ∧ base ≤ g ∧ ok g ∧ BRow w g c bs := by
  obtain ⟨hok, inner, ho, hr⟩ := h
  rcases ho.2 with ⟨rfl, hn⟩ | ⟨g, cap, cur, rfl, hb, hh, h1, h2, h3, h4⟩
  · exact .inl ⟨rfl, List.eq_nil_of_length_eq_zero hn⟩
  · refine .inr ⟨g, cap, rfl, hb, hok g rfl, cur, hh, h1, h2, h3.trans (Nat.mul_one _), fun i x hi => ?_⟩
    have hi' : i < bs.length := (List.getElem?_eq_some_iff.1 hi).1
    have e : ((inner.drop (i * 1)).take 1) = [.int .u8 x] := hr.2 i x hi
    have a0 : inner[i]? = some (.int .u8 x) := by
      have := congrArg (fun l => l[0]?) e
      simpa [List.getElem?_take, List.getElem?_drop] using this
    have hh4 : cur.toList.take (bs.length * 1) = inner := h4
    rw [← hh4, List.getElem?_take_of_lt (by omega), Array.getElem?_toList] at a0
    exact a0
theorem C_of_brow {w : World} {g c : Nat} {bs : List Int} (h : BRow w g c bs) : Kd.C (Kd.int .u8) w (some ⟨g, 0, none⟩) bs.length bs := by
  have hle := h.le
  refine ⟨rfl, by omega, fun _ => ⟨_, rfl, fun j p hp => ⟨[.int .u8 p], rfl, rfl, fun i u hu => ?_⟩⟩⟩
  match i, hu with
  | 0, hu =>
    obtain rfl := Option.some.inj hu
    show w.cell? ((⟨g, 0, none⟩ : Addr).add (j * 1 + 0)) = _
    rw [add_plain, show j * 1 + 0 = j by omega]
    exact h.cell hp
  | i + 1, hu => simp at hu
end Go.Proofs.Ytgknafhpfghbjaa.X
