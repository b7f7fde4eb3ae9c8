/- Filters in memory: a block that holds the head of a row of bytes; names turned into bytes. -/
import Derived.Test.YteeimkafcadinaaRefMur
import Derived.Sort.Row
namespace Go.Proofs.Yteeimkafcadinaa.X
open Go.RowKit Go.Sort Go.Proofs.Yteeimkafcadinaa.B Go.Proofs.Yteeimkafcadinaa Go.Proofs.YteeimkafcadinaaW.PrintWords Go.Proofs.YteeimkafcadinaaW.PrintLast Go.Proofs.YteeimkafcadinaaW.PrintMore

theorem conv_string (w : World) (s : ByteArray) (hs : s.size ≤ 140737488351232) : ∃ cap W1, (convert 9 28 (.string s)).run Try.prog w = .ok (.slice (some ⟨w.heap.size, 0, none⟩) (bytesOf s).length cap) W1 ∧ (bytesOf s).length ≤ cap ∧ Below w.heap.size w W1 ∧ Kd.C (Kd.int .u8) W1 (some ⟨w.heap.size, 0, none⟩) (bytesOf s).length (bytesOf s) := by
  refine ⟨grownCap w s.size 0 5, Lib.bytesWorld w 5 s, ?_, ?_, ?_, ?_⟩
  · rw [bytesOf_length]
    exact Lib.run_convert_string_bytes (P := Try.prog) w 9 28 5 s Try.underlying9 Try.underlying28 Try.underlying5
  · rw [bytesOf_length]
    exact grownCap_ge w s.size 0 5
  · exact ⟨rfl, rfl, rfl, by rw [Lib.bytesWorld_size]; omega, fun k hk => Lib.bytesWorld_at_old w 5 s k hk⟩
  · refine Kd.C_of_reads (d := (0 : Int)) (h1 := fun _ => rfl) ⟨rfl, by rw [bytesOf_length]; omega, fun _ => ⟨_, rfl, fun j hj => ?_⟩⟩
    rw [bytesOf_length] at hj
    rw [add_plain, Lib.bytesWorld_cell w 5 s j hj]
    have hj' : j < s.data.toList.length := by rw [data_length]; exact hj
    rw [List.getD_eq_getElem?_getD, List.getD_eq_getElem?_getD, bytesOf, List.getElem?_map, List.getElem?_eq_getElem hj']
    rfl
theorem bytes_bytesOf (s : ByteArray) : Ad.Bytes (bytesOf s) := by
  intro c hc
  obtain ⟨b, _, rfl⟩ := List.mem_map.1 hc
  have := b.toNat_lt
  omega
theorem murmur_some (s : ByteArray) (k : Int) (hk : Mur.W k) (hs : s.size ≤ 140737488351232) : digest_Murmur.f (bytesOf s) k = some (Mur.murmur (bytesOf s) k) :=
  if_pos ⟨bytesB_of (bytes_bytesOf s), hk.1, hk.2, by rw [bytesOf_length]; exact hs⟩

/-- Block g of w begins with the bytes bs; it has room for c. -/
def BRow (w : World) (g c : Nat) (bs : List Int) : Prop :=
  ∃ cur : Array Value, w.heap[g]? = some (.cells cur 5 (0, 0)) ∧ bs.length ≤ c ∧ c ≤ maxLen ∧ cur.size = c ∧ ∀ (i : Nat) (x : Int), bs[i]? = some x → cur[i]? = some (Value.int .u8 x)
theorem BRow.lt {w : World} {g c : Nat} {bs : List Int} (h : BRow w g c bs) : g < w.heap.size := by
  obtain ⟨cur, hb, _⟩ := h
  exact (Array.getElem?_eq_some_iff.1 hb).1
theorem BRow.move {w w' : World} {g c : Nat} {bs : List Int} (h : BRow w g c bs) (hm : w'.heap[g]? = w.heap[g]?) : BRow w' g c bs := by
  obtain ⟨cur, hb, r⟩ := h
  exact ⟨cur, hm.trans hb, r⟩
theorem BRow.below {w w' : World} {g c : Nat} {bs : List Int} (h : BRow w g c bs) (hb : Below w.heap.size w w') : BRow w' g c bs := h.move (hb.block g h.lt)
theorem BRow.cell {w : World} {g c : Nat} {bs : List Int} (h : BRow w g c bs) {i : Nat} {x : Int} (hi : bs[i]? = some x) : w.cell? ⟨g, i, none⟩ = some (.int .u8 x) := by
  obtain ⟨cur, hb, _, _, _, hc⟩ := h
  exact (cell_of_row w g _ cur _ _ hb).trans (hc i x hi)
theorem BRow.free {w : World} {g c : Nat} {bs : List Int} (h : BRow w g c bs) (j : Nat) : w.frozen? ⟨g, j, none⟩ = false := by
  obtain ⟨cur, hb, _⟩ := h
  simp [World.frozen?, hb]
theorem BRow.le {w : World} {g c : Nat} {bs : List Int} (h : BRow w g c bs) : bs.length ≤ c ∧ c ≤ 9223372036854775807 := by
  obtain ⟨cur, hb, h1, h2, h3, hc⟩ := h
  unfold maxLen at h2
  exact ⟨h1, h2⟩
theorem BRow.set {w : World} {g c : Nat} {bs : List Int} (h : BRow w g c bs) (i : Nat) (x : Int) : BRow (w.setCell ⟨g, i, none⟩ (.int .u8 x)) g c (bs.set i x) := by
  obtain ⟨cur, hb, h1, h2, h3, hc⟩ := h
  refine ⟨cur.setIfInBounds i (.int .u8 x), ?_, by rw [List.length_set]; exact h1, h2, by simpa using h3, fun k y hk => ?_⟩
  · rw [setCell_eq]
    simp [mapBlock, Array.getElem?_modify, hb, onCells]
  · by_cases e : i = k
    · subst e
      have hl : i < bs.length := by
        rcases Nat.lt_or_ge i bs.length with h' | h'
        · exact h'
        · rw [List.getElem?_eq_none (by rw [List.length_set]; exact h')] at hk; cases hk
      rw [List.getElem?_set_self hl] at hk
      obtain rfl := Option.some.inj hk
      rw [Array.getElem?_setIfInBounds_self_of_lt (by omega)]
    · rw [List.getElem?_set_ne e] at hk
      rw [Array.getElem?_setIfInBounds_ne (by omega)]; exact hc k y hk
theorem grownBy_set (w : World) (g j : Nat) (v : Value) : w.grownBy (w.setCell ⟨g, j, none⟩ v) (some g) := by
  refine ⟨rfl, rfl, rfl, by rw [setCell_eq]; simp [mapBlock], fun k hk hne => ?_⟩
  have : g ≠ k := fun e => hne (by rw [e])
  rw [setCell_eq]
  simp [mapBlock, Array.getElem?_modify, this]
theorem brow_of_R {w : World} {base : Nat} {ok : Nat → Prop} {v : Value} {bs : List Int} (h : Kd.R (Kd.int .u8) 5 w base ok v bs) : (v = .slice none 0 0 ∧ bs = []) ∨ ∃ g c, v = .slice (some ⟨g, 0, none⟩) bs.length c ∧ base ≤ g ∧ ok g ∧ BRow w g c bs := by
  obtain ⟨hok, inner, ho, hr⟩ := h
  rcases ho.2 with ⟨rfl, hn⟩ | ⟨g, cap, cur, rfl, hb, hh, h1, h2, h3, h4⟩
  · exact .inl ⟨rfl, List.eq_nil_of_length_eq_zero hn⟩
  · refine .inr ⟨g, cap, rfl, hb, hok g rfl, cur, hh, h1, h2, h3.trans (Nat.mul_one _), fun i x hi => ?_⟩
    have hi' : i < bs.length := (List.getElem?_eq_some_iff.1 hi).1
    have e : ((inner.drop (i * 1)).take 1) = [.int .u8 x] := hr.2 i x hi
    have a0 : inner[i]? = some (.int .u8 x) := by
      have := congrArg (fun l => l[0]?) e
      simpa [List.getElem?_take, List.getElem?_drop] using this
    have hh4 : cur.toList.take (bs.length * 1) = inner := h4
    rw [← hh4, List.getElem?_take_of_lt (by omega), Array.getElem?_toList] at a0
    exact a0
theorem C_of_brow {w : World} {g c : Nat} {bs : List Int} (h : BRow w g c bs) : Kd.C (Kd.int .u8) w (some ⟨g, 0, none⟩) bs.length bs := by
  have hle := h.le
  refine ⟨rfl, by omega, fun _ => ⟨_, rfl, fun j p hp => ⟨[.int .u8 p], rfl, rfl, fun i u hu => ?_⟩⟩⟩
  match i, hu with
  | 0, hu =>
    obtain rfl := Option.some.inj hu
    show w.cell? ((⟨g, 0, none⟩ : Addr).add (j * 1 + 0)) = _
    rw [add_plain, show j * 1 + 0 = j by omega]
    exact h.cell hp
  | i + 1, hu => simp at hu
/-- A filter: block g holds the head of block gB's bytes. -/
structure Flt (t : Nat) (w : World) (g gB c : Nat) (bs : List Int) : Prop where
  box : w.heap[g]? = some (.cells #[.slice (some ⟨gB, 0, none⟩) bs.length c] t (0, 0))
  row : BRow w gB c bs
  ne : g ≠ gB
  bytes : Ad.Bytes bs
  ge : 8 ≤ bs.length
  le : bs.length ≤ 4096
theorem Flt.cell {t : Nat} {w : World} {g gB c : Nat} {bs : List Int} (h : Flt t w g gB c bs) : w.cell? ⟨g, 0, none⟩ = some (.slice (some ⟨gB, 0, none⟩) bs.length c) := (cell_of_row w g 0 _ _ _ h.box).trans rfl
theorem Flt.below {t : Nat} {w w' : World} {g gB c : Nat} {bs : List Int} (h : Flt t w g gB c bs) (hb : Below w.heap.size w w') : Flt t w' g gB c bs :=
  ⟨blk_below h.box hb, h.row.below hb, h.ne, h.bytes, h.ge, h.le⟩
theorem Flt.move {t : Nat} {w w' : World} {g gB c : Nat} {bs : List Int} (h : Flt t w g gB c bs) (h1 : w'.heap[g]? = w.heap[g]?) (h2 : w'.heap[gB]? = w.heap[gB]?) : Flt t w' g gB c bs :=
  ⟨h1.trans h.box, h.row.move h2, h.ne, h.bytes, h.ge, h.le⟩
theorem Flt.lt {t : Nat} {w : World} {g gB c : Nat} {bs : List Int} (h : Flt t w g gB c bs) : g < w.heap.size ∧ gB < w.heap.size := ⟨(Array.getElem?_eq_some_iff.1 h.box).1, h.row.lt⟩
theorem Flt.set {t : Nat} {w : World} {g gB c : Nat} {bs : List Int} (h : Flt t w g gB c bs) (i : Nat) (x : Int) (hx : 0 ≤ x ∧ x < 256) : Flt t (w.setCell ⟨gB, i, none⟩ (.int .u8 x)) g gB c (bs.set i x) := by
  refine ⟨?_, h.row.set i x, h.ne, Ad.bytes_set h.bytes i x hx.1 hx.2, by rw [List.length_set]; exact h.ge, by rw [List.length_set]; exact h.le⟩
  rw [List.length_set, ← h.box, setCell_eq]
  simp [mapBlock, Array.getElem?_modify, Ne.symm h.ne]
end Go.Proofs.Yteeimkafcadinaa.X
