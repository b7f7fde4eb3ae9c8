/- The laws RangesOrder, RangesNormal, RangesLen and RangesBack of plain lists. -/
import Derived.Test.YthdieelceafidaaRef
namespace Go.Proofs.Ythdieelceafidaa.X
open Go.RowKit Go.Proofs.Ythdieelceafidaa.G Go.Proofs.YthdieelceafidaaW.PrintWords Go.Proofs.YthdieelceafidaaW.PrintLast Go.Proofs.YthdieelceafidaaW.PrintMore

theorem normal_is (l : List S24) (h : l.length < 1000000) : ranges_Normal.f l = some (nf l) := if_pos h
theorem radd_is (l : List S24) (a b : Int) (h : l.length < 999999) : ranges_Add.f l a b = some (nf (l ++ [⟨a, b⟩])) := if_pos h
theorem nf_nf (l : List S24) : nf (nf l) = nf l := nf_of (nf_NF l) fun _ => Iff.rfl

/-! RangesOrder -/
theorem order_l1 (xs x5 ys : List S24) (k j : Nat) (hd : xs.drop j = ys) (hj : j ≤ xs.length) (hx5 : nf x5 = nf xs) (h5 : x5.length < 1000000) (hl : xs.length ≤ 512) (hk : ys.length + 3 * xs.length + 10 ≤ k) :
    thermographlaw16_RangesOrder.l1 k xs x5 (nf (xs.take j)) (j : Int) = some true := by
  induction ys generalizing k j with
  | nil =>
    obtain ⟨k, rfl⟩ : ∃ k', k = k' + 1 := ⟨k - 1, by omega⟩
    have e := drop_end hd hj
    have hn := nf_len xs
    rw [thermographlaw16_RangesOrder.l1, if_neg (by omega), refNormal_is k xs (by omega) (by omega), some_bind, normal_is x5 h5, some_bind, hx5, same_self k (nf xs) (by omega) (by omega), some_bind, if_pos rfl, e, List.take_length, same_self k (nf xs) (by omega) (by omega), some_bind]
  | cons y ys ih =>
    obtain ⟨k, rfl⟩ : ∃ k', k = k' + 1 := ⟨k - 1, by omega⟩
    obtain ⟨h1, h2, h3⟩ := drop_at hd
    simp only [List.length_cons] at hk
    have hn := nf_len (xs.take j)
    have hnn : (xs.take j).length ≤ xs.length := by simp; omega
    have e : nf (nf (xs.take j) ++ [(⟨y.f0, y.f1⟩ : S24)]) = nf (xs.take (j + 1)) := by
      refine nf_eq fun t => ?_
      rw [mem_append, nf_mem, List.take_add_one, mem_append, h2]
      rfl
    rw [thermographlaw16_RangesOrder.l1, if_pos (by omega), if_pos (by omega), rd_nat h2, radd_is _ _ _ (by omega), some_bind, e, w_succ h1 (by omega)]
    exact ih k (j + 1) h3 h1 (by omega)
theorem order_l0 (xs : List S24) (a1 : Int) (m : Nat) (k : Nat) (x5 : List S24) (hm : m ≤ xs.length) (hl : xs.length ≤ 512) (h5 : x5.length + 2 * m < 1000000) (hmem : ∀ t, mem t (x5 ++ xs.take m) ↔ mem t xs) (hk : m + 4 * xs.length + 20 ≤ k) :
    thermographlaw16_RangesOrder.l0 k xs a1 x5 ((m : Int) - 1) = some true := by
  induction m generalizing k x5 with
  | zero =>
    obtain ⟨k, rfl⟩ : ∃ k', k = k' + 1 := ⟨k - 1, by omega⟩
    have e0 : wrap64 ((xs.length : Int) + 1) = (xs.length : Int) + 1 := by unfold wrap64; omega
    rw [thermographlaw16_RangesOrder.l0, if_neg (by omega), e0, if_neg (by omega)]
    have hpos : (0 : Int) < (xs.length : Int) + 1 := by omega
    have hb1 : Int.tmod a1 ((xs.length : Int) + 1) < (xs.length : Int) + 1 := Int.tmod_lt_of_pos _ hpos
    have hb2 : -((xs.length : Int) + 1) < Int.tmod a1 ((xs.length : Int) + 1) := by
      have := Int.lt_tmod_of_pos a1 hpos; omega
    generalize Int.tmod a1 ((xs.length : Int) + 1) = q at hb1 hb2 ⊢
    have e1 : wrap64 (q + (xs.length : Int)) = q + xs.length := by unfold wrap64; omega
    have e2 : wrap64 (q + (xs.length : Int) + 1) = q + xs.length + 1 := by unfold wrap64; omega
    rw [e1, e2]
    have hb3 : 0 ≤ Int.tmod (q + xs.length + 1) ((xs.length : Int) + 1) := Int.tmod_nonneg _ (by omega)
    have hb4 : Int.tmod (q + xs.length + 1) ((xs.length : Int) + 1) < (xs.length : Int) + 1 := Int.tmod_lt_of_pos _ hpos
    generalize Int.tmod (q + xs.length + 1) ((xs.length : Int) + 1) = j at hb3 hb4 ⊢
    obtain ⟨j, rfl⟩ : ∃ n : Nat, j = n := ⟨j.toNat, by omega⟩
    rw [if_pos hb3, if_pos (by omega), Int.toNat_natCast, normal_is _ (by simp; omega), some_bind]
    refine order_l1 xs x5 (xs.drop j) k j rfl (by omega) (nf_eq fun t => ?_) (by omega) hl (by simp; omega)
    have := hmem t
    simpa using this
  | succ m ih =>
    obtain ⟨k, rfl⟩ : ∃ k', k = k' + 1 := ⟨k - 1, by omega⟩
    obtain ⟨y, hy⟩ : ∃ y, xs[m]? = some y := ⟨xs[m], List.getElem?_eq_getElem (by omega)⟩
    have em : ((m + 1 : Nat) : Int) - 1 = (m : Int) := by omega
    have ew : wrap64 ((m : Int) - 1) = (m : Int) - 1 := by unfold wrap64; omega
    rw [em, thermographlaw16_RangesOrder.l0, if_pos (by omega), if_pos (by omega), if_pos (by omega), rd_nat hy, some_bind, if_pos (by simp; omega), ew]
    refine ih k _ (by omega) (by simp; omega) (fun t => ?_) (by omega)
    rw [← hmem t, List.take_add_one, hy, mem_append, mem_append, mem_append, mem_append, mem_cons, mem_one]
    show (mem t x5 ∨ (y.f0 ≤ t ∧ t < y.f1) ∨ (y.f0 ≤ t ∧ t < y.f1)) ∨ mem t (xs.take m) ↔ mem t x5 ∨ mem t (xs.take m) ∨ mem t [y]
    rw [mem_one, or_self, or_assoc, or_comm (a := y.f0 ≤ t ∧ t < y.f1)]
theorem order_pure (xs : List S24) (a1 : Int) : thermographlaw16_RangesOrder.f 4000 xs a1 = some true := by
  unfold thermographlaw16_RangesOrder.f
  by_cases h : (xs.length : Int) > 512
  · rw [if_pos h]
  · have ew : wrap64 ((xs.length : Int) - 1) = (xs.length : Int) - 1 := by unfold wrap64; omega
    rw [if_neg h, ew]
    exact order_l0 xs a1 xs.length 4000 [] (Nat.le_refl _) (by omega) (by simp; omega) (fun t => by simp) (by omega)

/-! RangesNormal -/
theorem normal_l0 (l0 xs ys : List S24) (a1 : Int) (k i : Nat) (hxs : xs = nf l0) (hd : xs.drop i = ys) (hi : i ≤ xs.length) (hl : l0.length ≤ 512) (hk : ys.length + 4 * l0.length + 20 ≤ k) :
    thermographlaw16_RangesNormal.l0 k l0 a1 xs (i : Int) = some true := by
  have hN : NF xs := hxs ▸ nf_NF l0
  have hlen := nf_len l0
  rw [← hxs] at hlen
  induction ys generalizing k i with
  | nil =>
    obtain ⟨k, rfl⟩ : ∃ k', k = k' + 1 := ⟨k - 1, by omega⟩
    have e := drop_end hd hi
    have e1 : nf xs = xs := nf_of hN fun _ => Iff.rfl
    have e2 : xs.any (within a1) = l0.any (within a1) := by
      rw [Bool.eq_iff_iff, any_within, any_within, hxs, nf_mem]
    rw [thermographlaw16_RangesNormal.l0, if_neg (by omega), normal_is xs (by omega), some_bind, e1, same_self k xs (by omega) (by omega), some_bind, if_pos rfl, ranges_Has.f, some_bind, refHas_is k l0 a1 (by omega) (by omega), some_bind, e2, if_pos (by simp), refNormal_is k l0 (by omega) (by omega), some_bind, ← hxs, same_self k xs (by omega) (by omega), some_bind]
  | cons y ys ih =>
    obtain ⟨k, rfl⟩ : ∃ k', k = k' + 1 := ⟨k - 1, by omega⟩
    obtain ⟨h1, h2, h3⟩ := drop_at hd
    simp only [List.length_cons] at hk
    have hy := hN.1 y (List.mem_of_getElem? h2)
    rw [thermographlaw16_RangesNormal.l0, if_pos (by omega), if_pos (by omega), rd_nat h2, if_neg (by omega)]
    by_cases h0 : (i : Int) > 0
    · obtain ⟨p, hp⟩ : ∃ p, xs[i - 1]? = some p := ⟨xs[i - 1], List.getElem?_eq_getElem (by omega)⟩
      have ew : wrap64 ((i : Int) - 1) = ((i - 1 : Nat) : Int) := by unfold wrap64; omega
      have hpy : p.f1 < y.f0 := by
        have := List.pairwise_iff_getElem.1 hN.2 (i - 1) i (by omega) h1 (by omega)
        rw [List.getElem?_eq_getElem (by omega)] at hp h2
        rw [← Option.some.inj hp, ← Option.some.inj h2]
        exact this
      rw [if_pos h0, ew, if_pos (by omega), if_pos (by omega), rd_nat hp, if_neg (by omega), w_succ h1 (by omega)]
      exact ih k (i + 1) h3 h1 (by omega)
    · rw [if_neg h0, w_succ h1 (by omega)]
      exact ih k (i + 1) h3 h1 (by omega)
theorem normal_pure (xs : List S24) (a1 : Int) : thermographlaw16_RangesNormal.f 4000 xs a1 = some true := by
  unfold thermographlaw16_RangesNormal.f
  by_cases h : (xs.length : Int) > 512
  · rw [if_pos h]
  · rw [if_neg h, normal_is xs (by omega), some_bind]
    have := nf_len xs
    exact normal_l0 xs (nf xs) (nf xs) a1 4000 0 rfl (by simp) (by omega) (by omega) (by omega)

/-! RangesBack -/
theorem spanned : ∀ {m : List S24} (a b : Int), NF m → a < b → (∀ t, a ≤ t → t < b → mem t m) → m.any (spans a b) = true
  | [], a, b, _, hab, h => absurd (h a (Int.le_refl _) hab) (mem_nil _)
  | x :: m, a, b, hN, hab, h => by
    have hx := hN.head
    rw [List.any_cons, Bool.or_eq_true]
    rcases (mem_cons _ _ _).1 (h a (Int.le_refl _) hab) with h1 | ⟨r, hr, h1, h2⟩
    · left
      simp only [spans, Bool.and_eq_true, decide_eq_true_eq]
      refine ⟨h1.1, ?_⟩
      rcases Int.lt_or_le x.f1 b with h3 | h3
      · exfalso
        rcases (mem_cons _ _ _).1 (h x.f1 (by omega) h3) with h4 | ⟨r, hr, h4, _⟩
        · omega
        · have := hx.2 r hr; omega
      · exact h3
    · right
      have hxr := hx.2 r hr
      refine spanned a b hN.tail hab fun t ht1 ht2 => ?_
      rcases (mem_cons _ _ _).1 (h t ht1 ht2) with h4 | h4
      · omega
      · exact h4
theorem covers_add (l : List S24) (a b : Int) (hl : l.length ≤ 1000) : ranges_Covers.f (nf (l ++ [⟨a, b⟩])) a b = some true := by
  have hn := nf_len (l ++ [(⟨a, b⟩ : S24)])
  simp only [List.length_append, List.length_cons, List.length_nil] at hn
  unfold ranges_Covers.f
  by_cases h : b ≤ a
  · rw [if_pos h]
  · rw [if_neg h, normal_is _ (by omega), some_bind]
    rw [spanned a b (nf_NF _) (by omega) fun t h1 h2 => ?_]
    rw [nf_mem, nf_mem, mem_append, mem_one]
    exact .inr ⟨h1, h2⟩
theorem not_true (b : Bool) : (b != true) = !b := by cases b <;> rfl
theorem back_j1 (k : Nat) (l : List S24) (a b : Int) (hl : l.length ≤ 512) (hk : 3000 ≤ k) : thermographlaw16_RangesBack.j1 k (nf (l ++ [⟨a, b⟩])) (subF l a b) false a b = some true := by
  obtain ⟨k, rfl⟩ : ∃ k', k = k' + 1 := ⟨k - 1, by omega⟩
  have hn := nf_len (l ++ [(⟨a, b⟩ : S24)])
  simp only [List.length_append, List.length_cons, List.length_nil] at hn
  have hs := subF_len l a b
  have e1 : subF (nf (l ++ [(⟨a, b⟩ : S24)])) a b = subF l a b := NF.unique (subF_NF _ _ _) (subF_NF _ _ _) fun t => by
    rw [subF_mem, subF_mem, nf_mem, mem_append, mem_one]
    show (mem t l ∨ (a ≤ t ∧ t < b)) ∧ ¬ (a ≤ t ∧ t < b) ↔ mem t l ∧ ¬ (a ≤ t ∧ t < b)
    constructor
    · rintro ⟨h1 | h1, h2⟩
      · exact ⟨h1, h2⟩
      · exact absurd h1 h2
    · rintro ⟨h1, h2⟩
      exact ⟨.inl h1, h2⟩
  have e2 : nf (subF l a b ++ [(⟨a, b⟩ : S24)]) = nf (l ++ [(⟨a, b⟩ : S24)]) := nf_eq fun t => by
    rw [mem_append, mem_append, subF_mem, mem_one]
    show (mem t l ∧ ¬ (a ≤ t ∧ t < b)) ∨ (a ≤ t ∧ t < b) ↔ mem t l ∨ (a ≤ t ∧ t < b)
    by_cases h : a ≤ t ∧ t < b <;> simp [h]
  rw [thermographlaw16_RangesBack.j1, if_neg (by simp), sub_is k _ a b (by omega) (by omega), some_bind, e1, same_self k _ (by omega) (by omega), some_bind, if_pos rfl, radd_is _ _ _ (by omega), some_bind, e2, same_self k _ (by omega) (by omega), some_bind]
theorem back_j0 (k : Nat) (l : List S24) (a b t : Int) (hl : l.length ≤ 512) (hk : 3001 ≤ k) (p : Bool) (hp : p = decide (a ≤ t ∧ t < b)) : thermographlaw16_RangesBack.j0 k l t (nf (l ++ [⟨a, b⟩])) (subF l a b) p a b = some true := by
  obtain ⟨k, rfl⟩ : ∃ k', k = k' + 1 := ⟨k - 1, by omega⟩
  have hs : (subF l a b).any (within t) = (l.any (within t) && !decide (a ≤ t ∧ t < b)) := by
    rw [Bool.eq_iff_iff, any_within, subF_mem, Bool.and_eq_true, any_within]
    by_cases h : a ≤ t ∧ t < b <;> simp [h]
  have ha : (nf (l ++ [(⟨a, b⟩ : S24)])).any (within t) = (l.any (within t) || decide (a ≤ t ∧ t < b)) := by
    rw [Bool.eq_iff_iff, any_within, nf_mem, mem_append, mem_one, Bool.or_eq_true, any_within]; simp
  rw [thermographlaw16_RangesBack.j0, covers_add l a b (by omega), some_bind, if_pos rfl, ranges_Has.f, some_bind, hs, ← hp]
  cases p with
  | true =>
    rw [if_pos rfl, if_neg (by simp), ranges_Has.f, some_bind, ha, ← hp, Bool.or_true]
    exact back_j1 k l a b hl (by omega)
  | false =>
    rw [if_neg (by simp), some_bind, refHas_is k l t (by omega) (by omega), some_bind, if_neg (by simp), ranges_Has.f, some_bind, some_bind, ha, ← hp, Bool.or_false, bne_self_eq_false]
    exact back_j1 k l a b hl (by omega)
theorem back_pure (xs : List S24) (a b t : Int) : thermographlaw16_RangesBack.f 4000 xs a b t = some true := by
  unfold thermographlaw16_RangesBack.f
  by_cases h : (xs.length : Int) > 512
  · rw [if_pos h]
  · rw [if_neg h, radd_is _ _ _ (by omega), some_bind, sub_is 4000 xs a b (by omega) (by omega), some_bind]
    by_cases h1 : t ≥ a
    · rw [if_pos h1]
      exact back_j0 4000 xs a b t (by omega) (by omega) _ (by rw [decide_eq_decide]; omega)
    · rw [if_neg h1]
      exact back_j0 4000 xs a b t (by omega) (by omega) _ (by rw [eq_comm, decide_eq_false_iff_not]; omega)
end Go.Proofs.Ythdieelceafidaa.X
