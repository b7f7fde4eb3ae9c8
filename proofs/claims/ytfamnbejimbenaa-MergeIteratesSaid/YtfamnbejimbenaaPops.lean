/- What popping the heads means for the points. Plain. -/
import Derived.Test.YtfamnbejimbenaaTake
set_option linter.unusedVariables false
set_option linter.unusedSimpArgs false
namespace Go.Proofs.Ytfamnbejimbenaa.X
open Go.RowKit Go.Sort Go.Proofs.Ytfamnbejimbenaa.G
theorem ltH_iff (x y : List S24) : ltH x y = true ↔ ((hd x).f0 < (hd y).f0 ∨ (hd x).f0 = (hd y).f0 ∧ ((hd x).f2 > (hd y).f2 ∨ (hd x).f2 = (hd y).f2 ∧ (hd x).f1 > (hd y).f1)) := by
  unfold ltH
  rw [ltAhead, decide_eq_true_iff, wins_iff]
theorem ltH_not (x y : List S24) : ltH x y = false ↔ ¬ ((hd x).f0 < (hd y).f0 ∨ (hd x).f0 = (hd y).f0 ∧ ((hd x).f2 > (hd y).f2 ∨ (hd x).f2 = (hd y).f2 ∧ (hd x).f1 > (hd y).f1)) := by
  rw [← ltH_iff]; simp
theorem weakH : Hp.Weak ltH where
  asymm a b h := by rw [ltH_iff] at h; rw [ltH_not]; omega
  trans a b c h1 h2 := by rw [ltH_not] at *; omega
theorem popped_perm (ls : List (List S24)) (n : Nat) (hn : ls.length = n + 1) : (ls.getD 0 [] :: popped ls n).Perm ls := by
  unfold popped
  have hp1 := Hp.sw_perm [] ls 0 n (by omega) (by omega)
  have hl1 : (Hp.sw [] ls 0 n).length = n + 1 := by rw [Hp.sw_length]; exact hn
  have hg1 : (Hp.sw [] ls 0 n).getD n [] = ls.getD 0 [] := by rw [Hp.sw_get [] ls 0 n n (by omega) (by omega), if_pos rfl]
  generalize Hp.sw [] ls 0 n = l1 at hp1 hl1 hg1
  have hp2 : (Hp.down [] ltH (n + 1) l1 0 n).Perm l1 := by
    by_cases h0 : n = 0
    · subst h0; rw [Hp.down, if_pos (by omega)]
    · exact Hp.down_perm _ _ _ _ (by omega) (by omega)
  have hg2 : (Hp.down [] ltH (n + 1) l1 0 n).getD n [] = l1.getD n [] := by
    by_cases h0 : n = 0
    · subst h0; rw [Hp.down, if_pos (by omega)]
    · exact Hp.down_rest _ _ _ _ _ (by omega) (by omega) (Nat.le_refl _)
  have hl2 : (Hp.down [] ltH (n + 1) l1 0 n).length = n + 1 := by rw [Hp.down_length]; exact hl1
  generalize Hp.down [] ltH (n + 1) l1 0 n = l2 at hp2 hg2 hl2
  have hne : l2 ≠ [] := fun e => by rw [e] at hl2; cases hl2
  have hlast : l2.getLast hne = ls.getD 0 [] := by
    rw [← hg1, ← hg2, List.getLast_eq_getElem, List.getD_eq_getElem?_getD, List.getElem?_eq_getElem (by omega)]
    simp [hl2]
  have hsplit := List.dropLast_concat_getLast hne
  rw [hlast] at hsplit
  have h3 : (ls.getD 0 [] :: l2.dropLast).Perm (l2.dropLast ++ [ls.getD 0 []]) := (List.perm_append_singleton _ _).symm
  rw [hsplit] at h3
  exact (h3.trans hp2).trans hp1
theorem getD_dropLast (l : List (List S24)) (j : Nat) (hj : j + 1 < l.length) : l.dropLast.getD j [] = l.getD j [] := by
  rw [List.getD_eq_getElem?_getD, List.getD_eq_getElem?_getD, List.getElem?_dropLast, if_pos (by omega)]
theorem popped_heap (ls : List (List S24)) (n : Nat) (hn : ls.length = n + 1) (hh : Hp.IsHeap [] ltH ls ls.length) : Hp.IsHeap [] ltH (popped ls n) (popped ls n).length := by
  have hl1 : (Hp.sw [] ls 0 n).length = n + 1 := by rw [Hp.sw_length]; exact hn
  have hg : ∀ m, 0 < m → m < n → (Hp.sw [] ls 0 n).getD m [] = ls.getD m [] := fun m h0 h1 => by
    rw [Hp.sw_get [] ls 0 n m (by omega) (by omega), if_neg (by omega), if_neg (by omega)]
  have hd : Hp.DownTo [] ltH (Hp.sw [] ls 0 n) n 0 := ⟨fun m h0 h1 h2 => by
    rw [hg m h0 h1, hg _ (by omega) (by omega)]
    exact hh m h0 (by omega), fun m _ _ _ h => absurd h (by omega)⟩
  have hd2 := Hp.down_heap weakH (n + 1) _ 0 n (by omega) (by omega) hd
  have hl2 : (Hp.down [] ltH (n + 1) (Hp.sw [] ls 0 n) 0 n).length = n + 1 := by rw [Hp.down_length]; exact hl1
  unfold popped
  intro j h0 h1
  rw [List.length_dropLast, hl2] at h1
  rw [getD_dropLast _ _ (by omega), getD_dropLast _ _ (by omega)]
  exact hd2 j h0 (by omega)
theorem fixed_perm (ls : List (List S24)) (h0 : 0 < ls.length) : (fixed ls).Perm ls := Hp.down_perm _ _ _ _ h0 (Nat.le_refl _)
theorem fixed_heap (ls : List (List S24)) (r : List S24) (hh : Hp.IsHeap [] ltH ls ls.length) : Hp.IsHeap [] ltH (fixed (ls.set 0 r)) (fixed (ls.set 0 r)).length := by
  have hl : (fixed (ls.set 0 r)).length = ls.length := by unfold fixed; rw [Hp.down_length, List.length_set]
  have hg : ∀ m, 0 < m → (ls.set 0 r).getD m [] = ls.getD m [] := fun m h0 => by
    rw [List.getD_eq_getElem?_getD, List.getD_eq_getElem?_getD, List.getElem?_set_ne (by omega)]
  have hd : Hp.DownTo [] ltH (ls.set 0 r) ls.length 0 := ⟨fun m h0 h1 h2 => by
    rw [hg m h0, hg _ (by omega)]
    exact hh m h0 h1, fun m _ _ _ h => absurd h (by omega)⟩
  rw [hl]
  unfold fixed
  rw [List.length_set]
  exact Hp.down_heap weakH (ls.length + 1) _ 0 ls.length (by omega) (by rw [List.length_set]; exact Nat.le_refl _) hd
theorem pushed_perm (ls : List (List S24)) (x : List S24) : (pushed ls x).Perm (ls ++ [x]) := Hp.up_perm _ _ _ (by simp)
theorem pushed_heap (ls : List (List S24)) (x : List S24) (hh : Hp.IsHeap [] ltH ls ls.length) : Hp.IsHeap [] ltH (pushed ls x) (pushed ls x).length := by
  have hl : (pushed ls x).length = ls.length + 1 := by rw [(pushed_perm ls x).length_eq]; simp
  have hg : ∀ m, m < ls.length → (ls ++ [x]).getD m [] = ls.getD m [] := fun m h0 => by
    rw [List.getD_eq_getElem?_getD, List.getD_eq_getElem?_getD, List.getElem?_append_left h0]
  rw [hl]
  unfold pushed
  refine Hp.up_heap weakH ls.length _ (ls.length + 1) ls.length (Nat.le_refl _) (by omega) (by simp) ⟨fun m h0 h1 h2 => ?_, fun m h0 h1 h2 _ => by omega⟩
  rw [hg m (by omega), hg _ (by omega)]
  exact hh m h0 (by omega)
/-- The heads as the iterator keeps them: a heap, each head a nonempty rising list. -/
structure Inv (ls : List (List S24)) : Prop where
  heap : Hp.IsHeap [] ltH ls ls.length
  ok : ∀ x ∈ ls, x ≠ [] ∧ Rises x
theorem Inv.taken {ls : List (List S24)} {p : S24} {r : List S24} (h : Inv ls) (h0 : 0 < ls.length) (hp : ls.getD 0 [] = p :: r) : Inv (taken ls r) ∧ (p :: (taken ls r).flatten).Perm ls.flatten := by
  obtain ⟨x, t, rfl⟩ : ∃ x t, ls = x :: t := by cases ls with | nil => cases h0 | cons x t => exact ⟨x, t, rfl⟩
  obtain rfl : x = p :: r := hp
  have hx := h.ok (p :: r) (by simp)
  unfold X.taken
  by_cases hr : r = []
  · subst hr
    rw [if_pos rfl]
    have hpp := popped_perm ([p] :: t) t.length (by simp)
    have e : ([p] :: t).length - 1 = t.length := by simp
    rw [e]
    refine ⟨⟨popped_heap _ _ (by simp) h.heap, fun x hx => h.ok x (hpp.mem_iff.1 (by simp [hx]))⟩, ?_⟩
    have := hpp.flatten
    simpa using this
  · rw [if_neg hr]
    have hpp := fixed_perm ((p :: r) :: t |>.set 0 r) (by simp)
    refine ⟨⟨fixed_heap _ r h.heap, fun x hx' => ?_⟩, ?_⟩
    · have := hpp.mem_iff.1 hx'
      simp only [List.set_cons_zero, List.mem_cons] at this
      rcases this with rfl | h1
      · exact ⟨hr, (List.pairwise_cons.1 hx.2).2⟩
      · exact h.ok x (by simp [h1])
    · have := hpp.flatten
      simp only [List.set_cons_zero, List.flatten_cons] at this ⊢
      simpa using this
end Go.Proofs.Ytfamnbejimbenaa.X
