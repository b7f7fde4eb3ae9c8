/- A binary heap in a list, as container/heap keeps it: up, down, what they leave. Plain Lean. -/
namespace Go.Proofs.Ytfamnbejimbenaa.X
namespace Hp

theorem cons_erase_perm {α : Type} : ∀ (l : List α) (j : Nat) (h : j < l.length), (l[j] :: l.eraseIdx j).Perm l
  | _ :: _, 0, _ => List.Perm.refl _
  | a :: r, j + 1, h => by
    simp only [List.getElem_cons_succ, List.eraseIdx_cons_succ]
    exact (List.Perm.swap a _ _).trans ((cons_erase_perm r j (by simpa using h)).cons a)
theorem set_perm {α : Type} : ∀ (l : List α) (j : Nat) (x : α), j < l.length → (l.set j x).Perm (x :: l.eraseIdx j)
  | _ :: _, 0, _, _ => List.Perm.refl _
  | a :: r, j + 1, x, h => by
    simp only [List.set_cons_succ, List.eraseIdx_cons_succ]
    exact ((set_perm r j x (by simpa using h)).cons a).trans (List.Perm.swap x a _)
section
variable {α : Type} (d : α) (lt : α → α → Bool)
/-- The i-th. -/
abbrev at_ (h : List α) (i : Nat) : α := h.getD i d
def sw (h : List α) (i j : Nat) : List α := (h.set i (h.getD j d)).set j (h.getD i d)
theorem sw_length (h : List α) (i j : Nat) : (sw d h i j).length = h.length := by simp [sw]
theorem sw_get (h : List α) (i j m : Nat) (hi : i < h.length) (hj : j < h.length) : (sw d h i j).getD m d = if m = j then h.getD i d else if m = i then h.getD j d else h.getD m d := by
  unfold sw
  simp only [List.getD_eq_getElem?_getD, List.getElem?_set, List.length_set]
  by_cases h1 : m = j
  · subst h1
    simp [hj]
  · by_cases h2 : m = i
    · subst h2
      simp [h1, Ne.symm h1, hi]
    · simp [h1, h2, Ne.symm h1, Ne.symm h2]
theorem sw_perm (h : List α) (i j : Nat) (hi : i < h.length) (hj : j < h.length) : (sw d h i j).Perm h := by
  unfold sw
  have e1 : h.getD j d = h[j] := by simp [List.getD_eq_getElem?_getD, hj]
  have e2 : h.getD i d = h[i] := by simp [List.getD_eq_getElem?_getD, hi]
  rw [e1, e2]
  by_cases hij : i = j
  · subst hij
    simp
  · have hjl : j < (h.set i h[j]).length := by simpa using hj
    have hg : (h.set i h[j])[j] = h[j] := by rw [List.getElem_set_ne hij]
    have p1 := cons_erase_perm (h.set i h[j]) j hjl
    rw [hg] at p1
    have p2 := (p1.trans (set_perm h i h[j] hi)).cons_inv
    exact ((set_perm (h.set i h[j]) j h[i] hjl).trans (p2.cons h[i])).trans (cons_erase_perm h i hi)
def up : Nat → List α → Nat → List α
  | 0, h, _ => h
  | k + 1, h, j => if (j - 1) / 2 = j then h else if lt (h.getD j d) (h.getD ((j - 1) / 2) d) = true then up k (sw d h ((j - 1) / 2) j) ((j - 1) / 2) else h
def least (h : List α) (i n : Nat) : Nat := if 2 * i + 2 < n ∧ lt (h.getD (2 * i + 2) d) (h.getD (2 * i + 1) d) = true then 2 * i + 2 else 2 * i + 1
def down : Nat → List α → Nat → Nat → List α
  | 0, h, _, _ => h
  | k + 1, h, i, n => if n ≤ 2 * i + 1 then h else if lt (h.getD (least d lt h i n) d) (h.getD i d) = true then down k (sw d h i (least d lt h i n)) (least d lt h i n) n else h
/-- The order that a heap wants: what is not less goes on. -/
structure Weak : Prop where
  asymm : ∀ a b, lt a b = true → lt b a = false
  trans : ∀ a b c, lt b a = false → lt c b = false → lt c a = false
theorem Weak.irrefl {lt : α → α → Bool} (w : Weak lt) (a : α) : lt a a = false := by
  cases h : lt a a with
  | false => rfl
  | true => have := w.asymm a a h; rw [h] at this; exact this
/-- The first n are a heap. -/
def IsHeap (h : List α) (n : Nat) : Prop := ∀ j, 0 < j → j < n → lt (h.getD j d) (h.getD ((j - 1) / 2) d) = false
variable {d lt}
theorem heap_root (w : Weak lt) {h : List α} {n : Nat} (hh : IsHeap d lt h n) : ∀ j, j < n → lt (h.getD j d) (h.getD 0 d) = false := by
  intro j
  induction j using Nat.strongRecOn with
  | ind j ih =>
    intro hj
    by_cases h0 : j = 0
    · subst h0; exact w.irrefl _
    · have h1 := ih ((j - 1) / 2) (by omega) (by omega)
      exact w.trans _ _ _ h1 (hh j (by omega) hj)
/-- A heap but at j, where something may be too small. -/
structure UpTo (d : α) (lt : α → α → Bool) (h : List α) (n j : Nat) : Prop where
  others : ∀ m, 0 < m → m < n → m ≠ j → lt (h.getD m d) (h.getD ((m - 1) / 2) d) = false
  kids : ∀ m, 0 < m → m < n → (m - 1) / 2 = j → 0 < j → lt (h.getD m d) (h.getD ((j - 1) / 2) d) = false
theorem up_heap (w : Weak lt) : ∀ (k : Nat) (h : List α) (n j : Nat), j ≤ k → j < n → n ≤ h.length → UpTo d lt h n j → IsHeap d lt (up d lt (k + 1) h j) n := by
  intro k
  induction k with
  | zero =>
    intro h n j hk hj hn hu
    obtain rfl : j = 0 := by omega
    rw [up, if_pos (by omega)]
    intro m hm hmn
    exact hu.others m hm hmn (by omega)
  | succ k ih =>
    intro h n j hk hj hn hu
    rw [up]
    by_cases h0 : (j - 1) / 2 = j
    · rw [if_pos h0]
      intro m hm hmn
      exact hu.others m hm hmn (by omega)
    · rw [if_neg h0]
      by_cases hl : lt (h.getD j d) (h.getD ((j - 1) / 2) d) = true
      · rw [if_pos hl]
        refine ih _ n ((j - 1) / 2) (by omega) (by omega) (by rw [sw_length]; exact hn) ⟨fun m hm hmn hne => ?_, fun m hm hmn hp hp0 => ?_⟩
        · rw [sw_get d h _ _ _ (by omega) (by omega), sw_get d h _ _ _ (by omega) (by omega)]
          by_cases hmj : m = j
          · subst hmj
            rw [if_pos rfl, if_neg (by omega), if_pos rfl]
            exact w.asymm _ _ hl
          · rw [if_neg hmj, if_neg hne]
            by_cases hpj : (m - 1) / 2 = j
            · rw [if_pos hpj]
              exact hu.kids m hm hmn hpj (by omega)
            · rw [if_neg hpj]
              by_cases hpi : (m - 1) / 2 = (j - 1) / 2
              · rw [if_pos hpi]
                have h1 := hu.others m hm hmn hmj
                rw [hpi] at h1
                exact w.trans _ _ _ (w.asymm _ _ hl) h1
              · rw [if_neg hpi]
                exact hu.others m hm hmn hmj
        · rw [sw_get d h _ _ _ (by omega) (by omega), sw_get d h _ _ _ (by omega) (by omega)]
          rw [if_neg (show ¬ ((j - 1) / 2 - 1) / 2 = j by omega), if_neg (show ¬ ((j - 1) / 2 - 1) / 2 = (j - 1) / 2 by omega)]
          have hpp := hu.others ((j - 1) / 2) hp0 (by omega) (by omega)
          by_cases hmj : m = j
          · subst hmj
            rw [if_pos rfl]
            exact hpp
          · rw [if_neg hmj, if_neg (by omega)]
            have h1 := hu.others m hm hmn hmj
            rw [hp] at h1
            exact w.trans _ _ _ hpp h1
      · rw [if_neg hl]
        intro m hm hmn
        by_cases hmj : m = j
        · subst hmj; simpa using hl
        · exact hu.others m hm hmn hmj
theorem up_perm : ∀ (k : Nat) (h : List α) (j : Nat), j < h.length → (up d lt k h j).Perm h := by
  intro k
  induction k with
  | zero => intro h j _; exact List.Perm.refl _
  | succ k ih =>
    intro h j hj
    rw [up]
    split
    · exact List.Perm.refl _
    · split
      · exact (ih _ _ (by rw [sw_length]; omega)).trans (sw_perm d h _ _ (by omega) hj)
      · exact List.Perm.refl _
theorem least_bounds {h : List α} {i n : Nat} (hn : 2 * i + 1 < n) : 2 * i + 1 ≤ least d lt h i n ∧ least d lt h i n ≤ 2 * i + 2 ∧ least d lt h i n < n := by
  unfold least
  split <;> omega
theorem least_least (w : Weak lt) {h : List α} {i n m : Nat} (hm : (m - 1) / 2 = i) (hm0 : 0 < m) (hmn : m < n) : lt (h.getD m d) (h.getD (least d lt h i n) d) = false := by
  have hm2 : m = 2 * i + 1 ∨ m = 2 * i + 2 := by omega
  unfold least
  split
  · rename_i hc
    rcases hm2 with rfl | rfl
    · exact w.asymm _ _ hc.2
    · exact w.irrefl _
  · rename_i hc
    rcases hm2 with rfl | rfl
    · exact w.irrefl _
    · have : ¬ lt (h.getD (2 * i + 2) d) (h.getD (2 * i + 1) d) = true := fun hx => hc ⟨hmn, hx⟩
      simpa using this
/-- A heap but below i, where something may be too great. -/
structure DownTo (d : α) (lt : α → α → Bool) (h : List α) (n i : Nat) : Prop where
  others : ∀ m, 0 < m → m < n → (m - 1) / 2 ≠ i → lt (h.getD m d) (h.getD ((m - 1) / 2) d) = false
  kids : ∀ m, 0 < m → m < n → (m - 1) / 2 = i → 0 < i → lt (h.getD m d) (h.getD ((i - 1) / 2) d) = false
theorem down_heap (w : Weak lt) : ∀ (k : Nat) (h : List α) (i n : Nat), n ≤ i + k → n ≤ h.length → DownTo d lt h n i → IsHeap d lt (down d lt k h i n) n := by
  intro k
  induction k with
  | zero =>
    intro h i n hk hn hd m hm hmn
    exact hd.others m hm hmn (by omega)
  | succ k ih =>
    intro h i n hk hn hd
    rw [down]
    by_cases h0 : n ≤ 2 * i + 1
    · rw [if_pos h0]
      intro m hm hmn
      exact hd.others m hm hmn (by omega)
    · rw [if_neg h0]
      obtain ⟨l1, l2, l3⟩ := least_bounds (d := d) (lt := lt) (h := h) (i := i) (n := n) (by omega)
      have hll := fun m hm hm0 hmn => least_least (d := d) w (h := h) (i := i) (n := n) (m := m) hm hm0 hmn
      by_cases hl : lt (h.getD (least d lt h i n) d) (h.getD i d) = true
      · rw [if_pos hl]
        generalize least d lt h i n = c at l1 l2 l3 hll hl
        refine ih _ c n (by omega) (by rw [sw_length]; exact hn) ⟨fun m hm hmn hne => ?_, fun m hm hmn hp hp0 => ?_⟩
        · rw [sw_get d h _ _ _ (by omega) (by omega), sw_get d h _ _ _ (by omega) (by omega)]
          by_cases hmc : m = c
          · subst hmc
            rw [if_pos rfl, if_neg (by omega), if_pos (by omega)]
            exact w.asymm _ _ hl
          · rw [if_neg hmc, if_neg hne]
            by_cases hmi : m = i
            · subst hmi
              rw [if_pos rfl, if_neg (by omega)]
              exact hd.kids c (by omega) l3 (by omega) hm
            · rw [if_neg hmi]
              by_cases hpi : (m - 1) / 2 = i
              · rw [if_pos hpi]
                exact hll m hpi hm hmn
              · rw [if_neg hpi]
                exact hd.others m hm hmn hpi
        · rw [sw_get d h _ _ _ (by omega) (by omega), sw_get d h _ _ _ (by omega) (by omega)]
          rw [if_neg (by omega), if_neg (by omega), if_neg (by omega), if_pos (by omega)]
          have := hd.others m hm hmn (by omega)
          rw [hp] at this
          exact this
      · rw [if_neg hl]
        intro m hm hmn
        by_cases hpi : (m - 1) / 2 = i
        · rw [hpi]
          exact w.trans _ _ _ (by simpa using hl) (hll m hpi hm hmn)
        · exact hd.others m hm hmn hpi
theorem down_length : ∀ (k : Nat) (h : List α) (i n : Nat), (down d lt k h i n).length = h.length := by
  intro k
  induction k with
  | zero => intro h i n; rfl
  | succ k ih =>
    intro h i n
    rw [down]
    split
    · rfl
    · split
      · rw [ih, sw_length]
      · rfl
theorem down_perm : ∀ (k : Nat) (h : List α) (i n : Nat), i < n → n ≤ h.length → (down d lt k h i n).Perm h := by
  intro k
  induction k with
  | zero => intro h i n _ _; exact List.Perm.refl _
  | succ k ih =>
    intro h i n hi hn
    rw [down]
    by_cases h0 : n ≤ 2 * i + 1
    · rw [if_pos h0]
    · rw [if_neg h0]
      obtain ⟨l1, l2, l3⟩ := least_bounds (d := d) (lt := lt) (h := h) (i := i) (n := n) (by omega)
      split
      · exact (ih _ _ _ l3 (by rw [sw_length]; exact hn)).trans (sw_perm d h _ _ (by omega) (by omega))
      · exact List.Perm.refl _
/-- What lies from n on stays. -/
theorem down_rest : ∀ (k : Nat) (h : List α) (i n m : Nat), i < n → n ≤ h.length → n ≤ m → (down d lt k h i n).getD m d = h.getD m d := by
  intro k
  induction k with
  | zero => intro h i n m _ _ _; rfl
  | succ k ih =>
    intro h i n m hi hn hm
    rw [down]
    by_cases h0 : n ≤ 2 * i + 1
    · rw [if_pos h0]
    · rw [if_neg h0]
      obtain ⟨l1, l2, l3⟩ := least_bounds (d := d) (lt := lt) (h := h) (i := i) (n := n) (by omega)
      split
      · rw [ih _ _ _ _ l3 (by rw [sw_length]; exact hn) hm, sw_get d h _ _ _ (by omega) (by omega), if_neg (by omega), if_neg (by omega)]
      · rfl
end
end Hp
end Go.Proofs.Ytfamnbejimbenaa.X
