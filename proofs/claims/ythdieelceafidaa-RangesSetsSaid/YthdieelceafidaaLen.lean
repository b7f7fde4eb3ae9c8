/- The lengths of ranges: they add up; the law RangesLen of plain lists. -/
import Derived.Test.YthdieelceafidaaLaws
import Derived.Test.YthdieelceafidaaOpen

namespace Go.Proofs.Ythdieelceafidaa.X
open Go.RowKit Go.Proofs.Ythdieelceafidaa.G Go.Proofs.YthdieelceafidaaW.PrintWords Go.Proofs.YthdieelceafidaaW.PrintLast Go.Proofs.YthdieelceafidaaW.PrintMore

theorem wrap64u (n : Int) : Go.IntKind.u64.wrap n = n % 18446744073709551616 := by simp [Go.IntKind.wrap, Go.IntKind.bits, Go.IntKind.signed]
def total : List S24 → Int
  | [] => 0
  | x :: xs => (x.f1 - x.f0) + total xs
theorem len_step (s f0 f1 : Int) (_h : s = s % 18446744073709551616) : Go.IntKind.u64.wrap (s + Go.IntKind.u64.wrap (Go.IntKind.u64.wrap f1 - Go.IntKind.u64.wrap f0)) = (s + (f1 - f0)) % 18446744073709551616 := by
  simp only [wrap64u]; omega
theorem len_l0 (xs ys : List S24) (k i : Nat) (s : Int) (hs : s = s % 18446744073709551616) (hd : xs.drop i = ys) (hi : i ≤ xs.length) (hl : xs.length < 100000000) (hk : ys.length + 1 ≤ k) :
    ranges_Len.l0 k s xs (xs.length : Int) (i : Int) = some ((s + total ys) % 18446744073709551616) := by
  induction ys generalizing k i s with
  | nil =>
    obtain ⟨k, rfl⟩ : ∃ k', k = k' + 1 := ⟨k - 1, by omega⟩
    have e := drop_end hd hi
    rw [ranges_Len.l0, if_neg (by omega), total, Int.add_zero, ← hs]
  | cons y ys ih =>
    obtain ⟨k, rfl⟩ : ∃ k', k = k' + 1 := ⟨k - 1, by omega⟩
    obtain ⟨h1, h2, h3⟩ := drop_at hd
    simp only [List.length_cons] at hk
    rw [ranges_Len.l0, if_pos (by omega), if_pos (by omega), if_pos (by omega), rd_nat h2, w_succ h1 (by omega), len_step s _ _ hs, ih k (i + 1) _ (by omega) h3 h1 (by omega), total]
    congr 1; omega
theorem len_is (k : Nat) (l : List S24) (hl : l.length < 1000000) (hk : l.length + 1 ≤ k) : ranges_Len.f k l = some (total (nf l) % 18446744073709551616) := by
  have hn := nf_len l
  unfold ranges_Len.f
  rw [normal_is l hl, some_bind]
  have := len_l0 (nf l) (nf l) k 0 0 rfl (by simp) (by omega) (by omega) (by omega)
  simpa using this
theorem refLen_l0 (xs ys : List S24) (k i : Nat) (s : Int) (hs : s = s % 18446744073709551616) (hd : xs.drop i = ys) (hi : i ≤ xs.length) (hl : xs.length < 100000000) (hk : ys.length + 1 ≤ k) :
    thermographref16_Len.l0 k s xs (i : Int) = some ((s + total ys) % 18446744073709551616) := by
  induction ys generalizing k i s with
  | nil =>
    obtain ⟨k, rfl⟩ : ∃ k', k = k' + 1 := ⟨k - 1, by omega⟩
    have e := drop_end hd hi
    rw [thermographref16_Len.l0, if_neg (by omega), total, Int.add_zero, ← hs]
  | cons y ys ih =>
    obtain ⟨k, rfl⟩ : ∃ k', k = k' + 1 := ⟨k - 1, by omega⟩
    obtain ⟨h1, h2, h3⟩ := drop_at hd
    simp only [List.length_cons] at hk
    rw [thermographref16_Len.l0, if_pos (by omega), if_pos (by omega), rd_nat h2, w_succ h1 (by omega), len_step s _ _ hs, ih k (i + 1) _ (by omega) h3 h1 (by omega), total]
    congr 1; omega
theorem refLen_is (k : Nat) (l : List S24) (hl : l.length < 1000000) (hk : 3 * l.length + 6 ≤ k) : thermographref16_Len.f k l = some (total (nf l) % 18446744073709551616) := by
  have hn := nf_len l
  unfold thermographref16_Len.f
  rw [refNormal_is k l (by omega) (by omega), some_bind]
  have := refLen_l0 (nf l) (nf l) k 0 0 rfl (by simp) (by omega) (by omega) (by omega)
  simpa using this

theorem absorb_total : ∀ (l : List S24) (r : S24), NF l → r.f0 < r.f1 → (∀ a ∈ l, a.f1 ≤ r.f0 ∨ r.f1 ≤ a.f0) → (∀ a ∈ l, r.f0 ≤ a.f1) → total (absorb l r) = total l + (r.f1 - r.f0)
  | [], r, _, _, _, _ => by simp [absorb, total]
  | a :: l, r, hl, hr, hd, hle => by
    have ha := hl.head
    have h1 := hd a List.mem_cons_self
    have h2 := hle a List.mem_cons_self
    by_cases h : a.f0 ≤ r.f1
    · rw [absorb, if_pos h, absorb_total l ⟨min r.f0 a.f0, max r.f1 a.f1⟩ hl.tail (by show min r.f0 a.f0 < max r.f1 a.f1; omega) (fun b hb => ?_) (fun b hb => ?_), total]
      · show total l + (max r.f1 a.f1 - min r.f0 a.f0) = _
        omega
      · have g1 := ha.2 b hb
        have g2 := hl.tail.1 b hb
        have g3 := hd b (List.mem_cons_of_mem _ hb)
        show b.f1 ≤ min r.f0 a.f0 ∨ max r.f1 a.f1 ≤ b.f0
        omega
      · have g1 := ha.2 b hb
        have g2 := hl.tail.1 b hb
        show min r.f0 a.f0 ≤ b.f1
        omega
    · rw [absorb, if_neg h, total, total]
      omega
theorem addP_total : ∀ (l : List S24) (r : S24), NF l → r.f0 < r.f1 → (∀ a ∈ l, a.f1 ≤ r.f0 ∨ r.f1 ≤ a.f0) → total (addP l r) = total l + (r.f1 - r.f0)
  | [], r, _, _, _ => by simp [addP, total]
  | a :: l, r, hl, hr, hd => by
    by_cases h : a.f1 < r.f0
    · rw [addP, if_pos h, total, total, addP_total l r hl.tail hr fun b hb => hd b (List.mem_cons_of_mem _ hb)]
      omega
    · rw [addP, if_neg h]
      refine absorb_total (a :: l) r hl hr hd fun b hb => ?_
      rcases List.mem_cons.1 hb with rfl | hb
      · omega
      · have := hl.head.2 b hb; have := hl.tail.1 b hb; omega
theorem addR_total (l : List S24) (r : S24) (hl : NF l) (hd : ∀ t, mem t l → ¬ (r.f0 ≤ t ∧ t < r.f1)) : total (addR l r) = total l + total (addR [] r) := by
  unfold addR
  by_cases h : r.f1 ≤ r.f0
  · rw [if_pos h, if_pos h]; simp [total]
  · rw [if_neg h, if_neg h, addP_total l r hl (by omega) fun a ha => ?_]
    · simp [addP, total]
    · have h1 := hl.1 a ha
      rcases Int.lt_or_le a.f1 r.f0 with h2 | h2
      · omega
      · rcases Int.lt_or_le a.f0 r.f0 with h3 | h3
        · by_cases h5 : a.f1 = r.f0
          · omega
          · exact absurd ⟨Int.le_refl _, by omega⟩ (hd r.f0 ⟨a, ha, by omega, by omega⟩)
        · have := hd a.f0 ⟨a, ha, by omega, by omega⟩
          omega
theorem total_bounds : ∀ (l : List S24) (lo hi : Int), NF l → (∀ x ∈ l, lo ≤ x.f0 ∧ x.f1 ≤ hi) → lo ≤ hi → 0 ≤ total l ∧ total l ≤ hi - lo ∧ (l ≠ [] → 0 < total l)
  | [], lo, hi, _, _, h => ⟨by simp [total], by simp [total]; omega, fun h => absurd rfl h⟩
  | a :: l, lo, hi, hl, hb, h => by
    have ha := hl.head
    have h1 := hb a List.mem_cons_self
    have := total_bounds l a.f1 hi hl.tail (fun x hx => ⟨by have := ha.2 x hx; omega, (hb x (List.mem_cons_of_mem _ hx)).2⟩) (by omega)
    rw [total]
    refine ⟨by omega, by omega, fun _ => by omega⟩
theorem nf_bounds (xs : List S24) (lo hi : Int) (h : ∀ x ∈ xs, lo ≤ x.f0 ∧ x.f1 ≤ hi) : ∀ x ∈ nf xs, lo ≤ x.f0 ∧ x.f1 ≤ hi := by
  intro x hx
  have h0 := (nf_NF xs).1 x hx
  obtain ⟨r, hr, h1, h2⟩ := (nf_mem xs x.f0).1 ⟨x, hx, by omega⟩
  obtain ⟨r', hr', h3, h4⟩ := (nf_mem xs (x.f1 - 1)).1 ⟨x, hx, by omega⟩
  have := h r hr
  have := h r' hr'
  omega
theorem len_pure (xs : List S24) (a b : Int) (hf : Fits xs) : thermographlaw16_RangesLen.f 4000 xs a b = some true := by
  unfold thermographlaw16_RangesLen.f
  by_cases h : (xs.length : Int) > 512
  · rw [if_pos h]
  · have hs := subF_len xs a b
    have hn := nf_len (subF xs a b ++ [(⟨a, b⟩ : S24)])
    simp only [List.length_append, List.length_cons, List.length_nil] at hn
    have e1 : nf (nf (subF xs a b ++ [(⟨a, b⟩ : S24)])) = addR (subF xs a b) ⟨a, b⟩ := by
      rw [nf_nf, nf_snoc, nf_of (subF_NF xs a b) fun _ => Iff.rfl]
    have e2 : nf (subF xs a b) = subF xs a b := nf_of (subF_NF xs a b) fun _ => Iff.rfl
    have e3 : total (addR (subF xs a b) ⟨a, b⟩) = total (subF xs a b) + total (nf [(⟨a, b⟩ : S24)]) := addR_total _ _ (subF_NF _ _ _) fun t ht => ((subF_mem xs a b t).1 ht).2
    have hb := total_bounds (nf xs) (-9223372036854775808) 9223372036854775807 (nf_NF xs) (nf_bounds xs _ _ fun x hx => by have := hf x hx; exact ⟨this.1, this.2.2.2⟩) (by omega)
    have e4 : total (nf xs) % 18446744073709551616 = total (nf xs) := by omega
    have e5 : (total (nf xs) == 0) = (((nf xs).length : Int) == 0) := by
      rcases List.eq_nil_or_concat (nf xs) with h1 | ⟨p, l, h1⟩
      · rw [h1]; rfl
      · have hne : nf xs ≠ [] := by rw [h1]; simp
        have h2 := hb.2.2 hne
        have h3 : (nf xs).length ≠ 0 := fun h => hne (List.length_eq_zero_iff.1 h)
        rw [beq_eq_false_iff_ne.2 (by omega), beq_eq_false_iff_ne.2 (by omega)]
    rw [if_neg h, sub_is 4000 xs a b (by omega) (by omega), some_bind, radd_is _ _ _ (by omega), some_bind, len_is 4000 _ (by omega) (by omega), some_bind, len_is 4000 _ (by omega) (by omega), some_bind,
      len_is 4000 [_] (by simp) (by simp), some_bind, e1, e2, e3, if_pos (by rw [wrap64u]; omega), len_is 4000 xs (by omega) (by omega), some_bind, refLen_is 4000 xs (by omega) (by omega), some_bind, if_pos rfl, some_bind, normal_is xs (by omega), some_bind, e4, e5, beq_self_eq_true]
end Go.Proofs.Ythdieelceafidaa.X
