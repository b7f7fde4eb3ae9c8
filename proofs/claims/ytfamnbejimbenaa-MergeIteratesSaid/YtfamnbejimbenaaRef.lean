/- What the printed functions of law06 tell: in plain words on lists. -/
import Derived.Test.YtfamnbejimbenaaGx4
import Derived.Test.YtfamnbejimbenaaGx5
import Derived.Test.YtfamnbejimbenaaViews
namespace Go.Proofs.Ytfamnbejimbenaa.X
open Go.RowKit Go.Proofs.Ytfamnbejimbenaa.G Go.Proofs.YtfamnbejimbenaaW.PrintWords Go.Proofs.YtfamnbejimbenaaW.PrintLast Go.Proofs.YtfamnbejimbenaaW.PrintMore

theorem some_bind {α β : Type} (a : α) (f : α → Option β) : (some a).bind f = f a := rfl
theorem w64 (i : Nat) (h : i < 9223372036854775807) : wrap64 ((i : Int) + 1) = ((i + 1 : Nat) : Int) := by unfold wrap64; omega
theorem w64p (i : Nat) (h : i < 9223372036854775807) : wrap64 (((i + 1 : Nat) : Int) - 1) = (i : Int) := by unfold wrap64; omega
theorem rdT {xs : List S24} {i : Nat} {x : S24} (h : xs[i]? = some x) : rd_T24 xs (i : Int) = x := by
  simp [rd_T24, List.getD_eq_getElem?_getD, h]
theorem rdL {xs : List (List S24)} {i : Nat} {x : List S24} (h : xs[i]? = some x) : rd_L3 xs (i : Int) = x := by
  simp [rd_L3, List.getD_eq_getElem?_getD, h]
theorem eta24 (x : S24) : (⟨x.f0, x.f1, x.f2⟩ : S24) = x := rfl
theorem at_some {α : Type} {xs : List α} {i : Nat} (h : i < xs.length) : ∃ x, xs[i]? = some x := ⟨xs[i], List.getElem?_eq_getElem h⟩
theorem dropC {α : Type} {xs : List α} {i : Nat} {x : α} (h : xs[i]? = some x) : xs.drop i = x :: xs.drop (i + 1) := by
  have hi : i < xs.length := (List.getElem?_eq_some_iff.1 h).1
  rw [List.drop_eq_getElem_cons hi, (List.getElem?_eq_some_iff.1 h).2]
theorem ltN {α : Type} {xs : List α} {i : Nat} {x : α} (h : xs[i]? = some x) : (i : Int) < (xs.length : Int) := by
  have := (List.getElem?_eq_some_iff.1 h).1; omega
theorem dropE {α : Type} {xs : List α} {i : Nat} (h : ¬ i < xs.length) : xs.drop i = [] := List.drop_eq_nil_of_le (by omega)

theorem mwins (a b : S24) : merge_Wins.f a.f0 a.f1 a.f2 b.f0 b.f1 b.f2 = some (wins a b) := by
  unfold merge_Wins.f wins
  by_cases h1 : a.f2 > b.f2
  · rw [if_pos h1]; simp [h1]
  · rw [if_neg h1]
    by_cases h2 : a.f2 = b.f2
    · rw [if_pos h2]; simp [h2]
    · rw [if_neg h2]; simp only [h1, h2, false_and, or_false, decide_false]
theorem rwins (a b : S24) : thermographref06_Wins.f a.f0 a.f1 a.f2 b.f0 b.f1 b.f2 = some (wins a b) := mwins a b
/-! heavy -/
theorem flat_take {xs : List (List S24)} {i : Nat} {x : List S24} (h : xs[i]? = some x) : (xs.take (i + 1)).flatten.length = (xs.take i).flatten.length + x.length := by
  rw [List.take_add_one, h]; simp
theorem flat_up (xs : List (List S24)) (i : Nat) : (xs.take i).flatten.length ≤ xs.flatten.length := by
  have := congrArg (fun l => (List.flatten l).length) (List.take_append_drop i xs)
  simp only [List.flatten_append, List.length_append] at this
  omega
theorem heavy_l (l : List (List S24)) (hl : l.length < 140737488355328) (hx : ∀ x ∈ l, x.length < 140737488355328) : ∀ (d k i : Nat), l.length - i = d → d < k → i ≤ l.length → (l.length + (l.take i).flatten.length < 140737488372736) →
    ∃ b, thermographlaw06_heavy.l0 k l ((l.length + (l.take i).flatten.length : Nat) : Int) (i : Int) = some b ∧ (b = false → l.length + l.flatten.length ≤ 8192) := by
  intro d
  induction d with
  | zero =>
    intro k i hd hk hi hs
    obtain ⟨k, rfl⟩ : ∃ m, k = m + 1 := ⟨k - 1, by omega⟩
    refine ⟨decide (((l.length + (l.take i).flatten.length : Nat) : Int) > 8192), ?_, fun h => ?_⟩
    · simp only [thermographlaw06_heavy.l0]
      rw [if_neg (by omega)]
    · have h' := of_decide_eq_false h
      rw [List.take_of_length_le (by omega)] at h'
      omega
  | succ d ih =>
    intro k i hd hk hi hs
    obtain ⟨k, rfl⟩ : ∃ m, k = m + 1 := ⟨k - 1, by omega⟩
    obtain ⟨x, e⟩ := at_some (xs := l) (i := i) (by omega)
    have hxl := hx x (List.mem_of_getElem? e)
    by_cases h8 : l.length + (l.take i).flatten.length ≤ 8192
    · obtain ⟨b, hb, hb2⟩ := ih k (i + 1) (by omega) (by omega) (by omega) (by rw [flat_take e]; omega)
      refine ⟨b, ?_, hb2⟩
      simp only [thermographlaw06_heavy.l0]
      rw [if_pos (ltN e), if_pos (by omega), if_pos (by omega), rdL e, w64 i (by omega)]
      rw [show wrap64 (((l.length + (l.take i).flatten.length : Nat) : Int) + (x.length : Int)) = ((l.length + (l.take (i + 1)).flatten.length : Nat) : Int) by rw [flat_take e]; unfold wrap64; omega]
      exact hb
    · refine ⟨true, ?_, fun h => by cases h⟩
      simp only [thermographlaw06_heavy.l0]
      rw [if_pos (ltN e), if_neg (by omega)]
      exact congrArg some (decide_eq_true (by omega))
theorem heavy_is (k : Nat) (l : List (List S24)) (hl : l.length < 140737488355328) (hx : ∀ x ∈ l, x.length < 140737488355328) (hk : l.length < k) : ∃ b, thermographlaw06_heavy.f k l = some b ∧ (b = false → l.length + l.flatten.length ≤ 8192) := by
  have := heavy_l l hl hx (l.length - 0) k 0 rfl (by omega) (by omega) (by simp; omega)
  simpa [thermographlaw06_heavy.f] using this
/-! copied -/
theorem each_le {l : List (List S24)} {x : List S24} (h : x ∈ l) : x.length ≤ l.flatten.length := by
  induction l with
  | nil => cases h
  | cons y l ih =>
    simp only [List.flatten_cons, List.length_append]
    rcases List.mem_cons.1 h with rfl | h
    · omega
    · have := ih h; omega
theorem copied_l (l : List (List S24)) (hl : l.length ≤ 1000000) (hf : l.flatten.length ≤ 1000000) : ∀ (d k i : Nat), l.length - i = d → d < k → i ≤ l.length → thermographlaw06_copied.l0 k l (l.take i) (i : Int) = some l := by
  intro d
  induction d with
  | zero =>
    intro k i hd hk hi
    obtain ⟨k, rfl⟩ : ∃ m, k = m + 1 := ⟨k - 1, by omega⟩
    simp only [thermographlaw06_copied.l0]
    rw [if_neg (by omega), List.take_of_length_le (by omega)]
  | succ d ih =>
    intro k i hd hk hi
    obtain ⟨k, rfl⟩ : ∃ m, k = m + 1 := ⟨k - 1, by omega⟩
    obtain ⟨x, e⟩ := at_some (xs := l) (i := i) (by omega)
    have hxl := each_le (List.mem_of_getElem? e)
    simp only [thermographlaw06_copied.l0, some_bind]
    rw [if_pos (ltN e), if_pos (by omega), rdL e, if_pos (by simp; omega), if_pos (by rw [List.length_take]; omega), w64 i (by omega)]
    have h := ih k (i + 1) (by omega) (by omega) (by omega)
    rw [List.take_add_one, e] at h
    exact h
theorem copied_is (k : Nat) (l : List (List S24)) (hl : l.length ≤ 1000000) (hf : l.flatten.length ≤ 1000000) (hk : l.length < k) : thermographlaw06_copied.f k l = some l := by
  have := copied_l l hl hf (l.length - 0) k 0 rfl (by omega) (by omega)
  simpa [thermographlaw06_copied.f] using this
/-! same -/
theorem same_l (a : List S24) (hs : a.length ≤ 100000000) : ∀ (d k i : Nat), a.length - i = d → d < k → i ≤ a.length → thermographlaw06_same.l0 k a a (i : Int) = some true := by
  intro d
  induction d with
  | zero =>
    intro k i hd hk hi
    obtain ⟨k, rfl⟩ : ∃ m, k = m + 1 := ⟨k - 1, by omega⟩
    simp only [thermographlaw06_same.l0]
    rw [if_neg (by omega)]
  | succ d ih =>
    intro k i hd hk hi
    obtain ⟨k, rfl⟩ : ∃ m, k = m + 1 := ⟨k - 1, by omega⟩
    obtain ⟨x, ea⟩ := at_some (xs := a) (i := i) (by omega)
    simp only [thermographlaw06_same.l0]
    rw [if_pos (ltN ea), if_pos (by omega), if_pos (ltN ea), rdT ea]
    simp only [beq_self_eq_true, Bool.not_true, Bool.or_self, Bool.false_eq_true, if_false]
    rw [w64 i (by omega)]
    exact ih k (i + 1) (by omega) (by omega) (by omega)
theorem same_self (k : Nat) (a : List S24) (hs : a.length ≤ 100000000) (hk : a.length < k) : thermographlaw06_same.f k a a = some true := by
  unfold thermographlaw06_same.f
  rw [if_pos rfl]
  have := same_l a hs (a.length - 0) k 0 rfl (by omega) (by omega)
  simpa using this
/-! Cut -/
def inR (a b : Int) (x : S24) : Bool := decide (a ≤ x.f0) && decide (x.f0 < b)
theorem take_filter {xs : List S24} {i : Nat} {x : S24} (p : S24 → Bool) (h : xs[i]? = some x) : (xs.take (i + 1)).filter p = (xs.take i).filter p ++ if p x then [x] else [] := by
  rw [List.take_add_one, h, List.filter_append]
  simp only [Option.toList]
  by_cases hp : p x = true <;> simp [hp]
theorem filter_le (p : S24 → Bool) (xs : List S24) (i : Nat) : ((xs.take i).filter p).length ≤ xs.length := by
  have h1 := List.length_filter_le p (xs.take i)
  rw [List.length_take] at h1
  omega
theorem mcut_l (l : List S24) (a b : Int) (hl : l.length ≤ 100000000) : ∀ (d k i : Nat), l.length - i = d → d < k → i ≤ l.length → merge_Cut.l0 k ((l.take i).filter (inR a b)) l (l.length : Int) (i : Int) a b = some (l.filter (inR a b)) := by
  intro d
  induction d with
  | zero =>
    intro k i hd hk hi
    obtain ⟨k, rfl⟩ : ∃ m, k = m + 1 := ⟨k - 1, by omega⟩
    simp only [merge_Cut.l0]
    rw [if_neg (by omega), List.take_of_length_le (by omega)]
  | succ d ih =>
    intro k i hd hk hi
    obtain ⟨k, rfl⟩ : ∃ m, k = m + 1 := ⟨k - 1, by omega⟩
    obtain ⟨x, e⟩ := at_some (xs := l) (i := i) (by omega)
    have h := ih k (i + 1) (by omega) (by omega) (by omega)
    have hfl := filter_le (inR a b) l i
    rw [take_filter (inR a b) e] at h
    simp only [merge_Cut.l0]
    rw [if_pos (ltN e), if_pos (by omega), if_pos (ltN e), rdT e, w64 i (by omega)]
    by_cases h1 : a ≤ x.f0
    · rw [if_pos h1]
      by_cases h2 : x.f0 < b
      · rw [if_pos h2, if_pos (by omega)]
        rw [show inR a b x = true by simp [inR, h1, h2]] at h
        exact h
      · rw [if_neg h2]
        rw [show inR a b x = false by simp [inR, h2]] at h
        simpa using h
    · rw [if_neg h1]
      rw [show inR a b x = false by simp [inR, h1]] at h
      simpa using h
theorem mcut_is (k : Nat) (l : List S24) (a b : Int) (hl : l.length ≤ 100000000) (hk : l.length < k) : merge_Cut.f k l a b = some (l.filter (inR a b)) := by
  have := mcut_l l a b hl (l.length - 0) k 0 rfl (by omega) (by omega)
  simpa [merge_Cut.f] using this
theorem rcut_l (l : List S24) (a b : Int) (hl : l.length ≤ 100000000) : ∀ (d k i : Nat), l.length - i = d → d < k → i ≤ l.length → thermographref06_Cut.l0 k l ((l.take i).filter (inR a b)) (i : Int) a b = some (l.filter (inR a b)) := by
  intro d
  induction d with
  | zero =>
    intro k i hd hk hi
    obtain ⟨k, rfl⟩ : ∃ m, k = m + 1 := ⟨k - 1, by omega⟩
    simp only [thermographref06_Cut.l0]
    rw [if_neg (by omega), List.take_of_length_le (by omega)]
  | succ d ih =>
    intro k i hd hk hi
    obtain ⟨k, rfl⟩ : ∃ m, k = m + 1 := ⟨k - 1, by omega⟩
    obtain ⟨x, e⟩ := at_some (xs := l) (i := i) (by omega)
    have h := ih k (i + 1) (by omega) (by omega) (by omega)
    have hfl := filter_le (inR a b) l i
    rw [take_filter (inR a b) e] at h
    simp only [thermographref06_Cut.l0]
    rw [if_pos (ltN e), if_pos (by omega), rdT e, w64 i (by omega)]
    by_cases h1 : x.f0 ≥ a
    · rw [if_pos h1]
      by_cases h2 : x.f0 < b
      · rw [if_pos h2, if_pos (by omega)]
        rw [show inR a b x = true by simp [inR, h2]; omega] at h
        exact h
      · rw [if_neg h2]
        rw [show inR a b x = false by simp [inR, h2]] at h
        simpa using h
    · rw [if_neg h1]
      rw [show inR a b x = false by simp [inR]; omega] at h
      simpa using h
theorem rcut_is (k : Nat) (l : List S24) (a b : Int) (hl : l.length ≤ 100000000) (hk : l.length < k) : thermographref06_Cut.f k l a b = some (l.filter (inR a b)) := by
  have := rcut_l l a b hl (l.length - 0) k 0 rfl (by omega) (by omega)
  simpa [thermographref06_Cut.f] using this
/-! half, View, Merge -/
theorem half_l (a b : List S24) (ha : a.length ≤ 1000000) (hb : b.length ≤ 1000000) : ∀ (d k i j : Nat) (o : List S24), (a.length - i) + (b.length - j) = d → 4 * d + 3 < k → i ≤ a.length → j ≤ b.length → o.length + d ≤ 100000000 → thermographref06_half.l0 k a b o (i : Int) (j : Int) = some (o ++ both (a.drop i) (b.drop j)) := by
  intro d
  induction d using Nat.strongRecOn with
  | ind d ih =>
    intro k i j o hd hk hi hj ho
    obtain ⟨k, rfl⟩ : ∃ m, k = m + 4 := ⟨k - 4, by omega⟩
    by_cases hia : i < a.length
    · obtain ⟨x, ea⟩ := at_some hia
      have ia := ltN ea
      by_cases hjb : j < b.length
      · obtain ⟨y, eb⟩ := at_some hjb
        have jb := ltN eb
        rw [dropC ea, dropC eb, both_cons]
        simp only [thermographref06_half.l0, thermographref06_half.j1, rdT ea, rdT eb]
        rw [if_pos ia]
        simp only [if_true]
        rw [if_neg (by omega), if_pos ia, if_pos (by omega), if_pos (by omega), if_pos jb]
        simp only [thermographref06_half.j2, rdT ea, rdT eb, eta24]
        by_cases h1 : x.f0 < y.f0
        · simp only [h1, decide_true, if_true]
          rw [if_pos (by omega), if_pos ia, if_pos (by omega), w64 i (by omega), ih (d - 1) (by omega) _ (i + 1) j _ (by omega) (by omega) (by omega) (by omega) (by simp; omega), ← dropC eb]
          simp
        · simp only [h1, decide_false, Bool.false_eq_true, if_false]
          rw [if_neg (by omega), if_pos (by omega), if_pos jb, if_pos (by omega), if_pos ia]
          simp only [thermographref06_half.j3, rdT ea, rdT eb, eta24]
          by_cases h2 : y.f0 < x.f0
          · simp only [h2, decide_true, if_true]
            rw [if_pos (by omega), if_pos jb, if_pos (by omega), w64 j (by omega), ih (d - 1) (by omega) _ i (j + 1) _ (by omega) (by omega) (by omega) (by omega) (by simp; omega), ← dropC ea]
            simp
          · simp only [h2, decide_false, Bool.false_eq_true, if_false]
            rw [if_pos (by omega), if_pos ia, if_pos (by omega), if_pos jb, rwins, some_bind]
            by_cases hw : wins y x = true
            · simp only [hw, if_true]
              rw [if_pos (by omega), w64 i (by omega), w64 j (by omega), ih (d - 2) (by omega) _ (i + 1) (j + 1) _ (by omega) (by omega) (by omega) (by omega) (by simp; omega)]
              simp
            · simp only [hw]
              rw [if_neg (by decide), if_pos (by omega), w64 i (by omega), w64 j (by omega), ih (d - 2) (by omega) _ (i + 1) (j + 1) _ (by omega) (by omega) (by omega) (by omega) (by simp; omega)]
              simp
      · have hjE : (j : Int) = (b.length : Int) := by omega
        simp only [thermographref06_half.l0, thermographref06_half.j1]
        rw [if_pos ia]
        simp only [if_true]
        rw [if_pos hjE]
        simp only [thermographref06_half.j2, if_true, rdT ea, eta24]
        rw [if_pos (by omega), if_pos ia, if_pos (by omega), w64 i (by omega), ih (d - 1) (by omega) _ (i + 1) j _ (by omega) (by omega) (by omega) (by omega) (by simp; omega), dropC ea, dropE hjb, both_nil', both_nil']
        simp
    · have hiE : (i : Int) = (a.length : Int) := by omega
      by_cases hjb : j < b.length
      · obtain ⟨y, eb⟩ := at_some hjb
        have jb := ltN eb
        simp only [thermographref06_half.l0, thermographref06_half.j1]
        rw [if_neg (by omega)]
        simp only [jb, decide_true, if_true]
        rw [if_neg (by omega), if_neg (by omega)]
        simp only [thermographref06_half.j2, Bool.false_eq_true, if_false]
        rw [if_pos hiE]
        simp only [thermographref06_half.j3, if_true, rdT eb, eta24]
        rw [if_pos (by omega), if_pos jb, if_pos (by omega), w64 j (by omega), ih (d - 1) (by omega) _ i (j + 1) _ (by omega) (by omega) (by omega) (by omega) (by simp; omega), dropC eb, dropE hia, both_nil, both_nil]
        simp
      · simp only [thermographref06_half.l0, thermographref06_half.j1]
        rw [if_neg (by omega)]
        have : ¬ (j : Int) < (b.length : Int) := by omega
        simp only [this, decide_false, Bool.false_eq_true, if_false]
        rw [dropE hia, dropE hjb, both_nil, List.append_nil]
theorem half_is (k : Nat) (a b : List S24) (ha : a.length ≤ 1000000) (hb : b.length ≤ 1000000) (hk : 4 * (a.length + b.length) + 3 < k) : thermographref06_half.f k a b = some (both a b) := by
  have := half_l a b ha hb (a.length + b.length) k 0 0 [] (by omega) (by omega) (by omega) (by omega) (by simp; omega)
  simpa [thermographref06_half.f] using this
theorem view_one (x : S24) : view [x] = [x] := by simp [view, both_nil']
theorem view_is_ref : ∀ (n k : Nat) (l : List S24), l.length ≤ n → n ≤ 1000000 → 5 * n + 4 < k → thermographref06_View.f k l = some (view l) := by
  intro n
  induction n using Nat.strongRecOn with
  | ind n ih =>
    intro k l hl hn hk
    obtain ⟨k, rfl⟩ : ∃ m, k = m + 1 := ⟨k - 1, by omega⟩
    simp only [thermographref06_View.f, some_bind]
    by_cases h1 : l.length ≤ 1
    · rw [if_pos (by omega), if_pos (by simp; omega)]
      match l, h1 with
      | [], _ => rfl
      | [x], _ => rw [view_one]; rfl
    · have e : wrap64 ((l.length : Int) / 2) = ((l.length / 2 : Nat) : Int) := by unfold wrap64; omega
      rw [if_neg (by omega), e, if_pos (by omega), if_pos (by omega), Int.toNat_natCast]
      have l1 : (l.take (l.length / 2)).length = l.length / 2 := by rw [List.length_take]; omega
      have l2 : (l.drop (l.length / 2)).length = l.length - l.length / 2 := List.length_drop
      rw [ih (n - 1) (by omega) k (l.take (l.length / 2)) (by omega) (by omega) (by omega), some_bind, ih (n - 1) (by omega) k (l.drop (l.length / 2)) (by omega) (by omega) (by omega), some_bind]
      have v1 := view_len (l.take (l.length / 2))
      have v2 := view_len (l.drop (l.length / 2))
      rw [half_is k _ _ (by omega) (by omega) (by omega), some_bind, ← view_append, List.take_append_drop]
theorem rmerge_l (l : List (List S24)) (hl : l.length ≤ 1000000) (hf : l.flatten.length ≤ 1000000) : ∀ (d k i : Nat), l.length - i = d → d + 5 * 1000000 + 5 < k → i ≤ l.length → thermographref06_Merge.l0 k l (l.take i).flatten (i : Int) = some (view l.flatten) := by
  intro d
  induction d with
  | zero =>
    intro k i hd hk hi
    obtain ⟨k, rfl⟩ : ∃ m, k = m + 1 := ⟨k - 1, by omega⟩
    simp only [thermographref06_Merge.l0]
    rw [if_neg (by omega), List.take_of_length_le (by omega), view_is_ref 1000000 k l.flatten hf (by omega) (by omega), some_bind]
  | succ d ih =>
    intro k i hd hk hi
    obtain ⟨k, rfl⟩ : ∃ m, k = m + 1 := ⟨k - 1, by omega⟩
    obtain ⟨x, e⟩ := at_some (xs := l) (i := i) (by omega)
    have h := ih k (i + 1) (by omega) (by omega) (by omega)
    have h1 := flat_up l (i + 1)
    rw [flat_take e] at h1
    simp only [thermographref06_Merge.l0]
    rw [if_pos (ltN e), if_pos (by omega), rdL e, if_pos (by omega), w64 i (by omega)]
    rw [List.take_add_one, e] at h
    simpa using h
theorem rmerge_is (k : Nat) (l : List (List S24)) (hl : l.length ≤ 1000000) (hf : l.flatten.length ≤ 1000000) (hk : 6000010 < k) : thermographref06_Merge.f k l = some (view l.flatten) := by
  have := rmerge_l l hl hf (l.length - 0) k 0 rfl (by omega) (by omega)
  simpa [thermographref06_Merge.f] using this
end Go.Proofs.Ytfamnbejimbenaa.X
