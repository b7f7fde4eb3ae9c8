/- The reference's functions, and the program's own that are plain loops, as plain laws. -/
import Derived.Test.YthdieelceafidaaGx7
import Derived.Test.YthdieelceafidaaGx6
import Derived.Test.YthdieelceafidaaGx5
import Derived.Test.YthdieelceafidaaGx4
import Derived.Test.YthdieelceafidaaHas
import Derived.Test.YthdieelceafidaaSet
namespace Go.Proofs.Ythdieelceafidaa.X
open Go.RowKit Go.Proofs.Ythdieelceafidaa.G Go.Proofs.YthdieelceafidaaW.PrintWords Go.Proofs.YthdieelceafidaaW.PrintLast Go.Proofs.YthdieelceafidaaW.PrintMore

theorem mn_eq (a b : Int) : mn a b = min a b := by unfold mn; split <;> omega
theorem mx_eq (a b : Int) : mx a b = max a b := by unfold mx; split <;> omega
theorem some_bind {α β : Type} (a : α) (f : α → Option β) : (some a).bind f = f a := rfl
theorem rd_nat {xs : List S24} {i : Nat} {x : S24} (h : xs[i]? = some x) : rd_T24 xs (i : Int) = x := by
  simp [rd_T24, List.getD_eq_getElem?_getD, h]
theorem w_succ {i n : Nat} (h : i < n) (hn : n ≤ 8000000000000) : wrap64 ((i : Int) + 1) = ((i + 1 : Nat) : Int) := by
  unfold wrap64; omega
theorem drop_at {xs ys : List S24} {i : Nat} {y : S24} (h : xs.drop i = y :: ys) : i < xs.length ∧ xs[i]? = some y ∧ xs.drop (i + 1) = ys := by
  have hi : i < xs.length := by
    rcases Nat.lt_or_ge i xs.length with h1 | h1
    · exact h1
    · rw [List.drop_eq_nil_of_le h1] at h; cases h
  rw [List.drop_eq_getElem_cons hi] at h
  obtain ⟨e1, e2⟩ := List.cons.inj h
  exact ⟨hi, by rw [List.getElem?_eq_getElem hi, e1], e2⟩
theorem drop_end {xs : List S24} {i : Nat} (h : xs.drop i = []) (hi : i ≤ xs.length) : i = xs.length := by
  have := List.drop_eq_nil_iff.1 h; omega
theorem absorb_len : ∀ (l : List S24) (r : S24), (absorb l r).length ≤ l.length + 1
  | [], r => by simp [absorb]
  | a :: l, r => by
    unfold absorb
    split
    · have := absorb_len l ⟨min r.f0 a.f0, max r.f1 a.f1⟩; simp only [List.length_cons]; omega
    · simp
theorem addP_len : ∀ (l : List S24) (r : S24), (addP l r).length ≤ l.length + 1
  | [], r => by simp [addP]
  | a :: l, r => by
    unfold addP
    split
    · have := addP_len l r; simp only [List.length_cons]; omega
    · exact absorb_len (a :: l) r
theorem addR_len (l : List S24) (r : S24) : (addR l r).length ≤ l.length + 1 := by
  unfold addR
  split
  · omega
  · exact addP_len l r
theorem fold_len (xs acc : List S24) : (xs.foldl addR acc).length ≤ acc.length + xs.length := by
  induction xs generalizing acc with
  | nil => simp
  | cons x xs ih => have := ih (addR acc x); have := addR_len acc x; simp only [List.foldl_cons, List.length_cons]; omega
theorem nf_len (xs : List S24) : (nf xs).length ≤ xs.length := by have := fold_len xs []; simpa [nf] using this

theorem add_l1 (xs : List S24) (ys : List S24) (k i : Nat) (out : List S24) (a b : Int) (hd : xs.drop i = ys) (hi : i ≤ xs.length) (hl : xs.length + out.length < 8000000000000) (hk : ys.length < k) :
    thermographref16_add.l1 k xs out (i : Int) a b = some (out ++ absorb ys ⟨a, b⟩) := by
  induction ys generalizing k i a b with
  | nil =>
    cases k with
    | zero => simp at hk
    | succ k =>
      have e := drop_end hd hi
      rw [thermographref16_add.l1, if_neg (by omega), if_pos (by omega), some_bind, if_pos (by omega), if_pos (by omega), some_bind, Int.toNat_natCast, hd, if_pos (by simp; omega)]
      simp [absorb]
  | cons y ys ih =>
    cases k with
    | zero => simp at hk
    | succ k =>
      obtain ⟨h1, h2, h3⟩ := drop_at hd
      rw [thermographref16_add.l1, if_pos (by omega), if_pos (by omega), rd_nat h2]
      by_cases h : y.f0 ≤ b
      · rw [if_pos h, w_succ h1 (by omega), ih k (i + 1) (mn a y.f0) (mx b y.f1) h3 h1 (by simp at hk; omega)]
        rw [absorb, if_pos (show y.f0 ≤ (⟨a, b⟩ : S24).f1 from h), mn_eq, mx_eq]
      · rw [if_neg h, if_pos (by omega), some_bind, if_pos (by omega), some_bind, Int.toNat_natCast, hd, if_pos (by have := congrArg List.length hd; simp at this ⊢; omega)]
        rw [absorb, if_neg (show ¬ y.f0 ≤ (⟨a, b⟩ : S24).f1 from h)]
        simp
theorem add_l0 (xs : List S24) (ys : List S24) (k i : Nat) (out : List S24) (a b : Int) (hd : xs.drop i = ys) (hi : i ≤ xs.length) (hl : xs.length + out.length + ys.length < 8000000000000) (hk : ys.length + 3 ≤ k) :
    thermographref16_add.l0 k xs out (i : Int) a b = some (out ++ addP ys ⟨a, b⟩) := by
  induction ys generalizing k i out with
  | nil =>
    obtain ⟨k, rfl⟩ : ∃ k', k = k' + 2 := ⟨k - 2, by omega⟩
    have e := drop_end hd hi
    rw [thermographref16_add.l0, if_neg (by omega), thermographref16_add.j1, add_l1 xs [] k i out a b hd hi (by simp at hl; omega) (by simp at hk ⊢; omega)]
    simp [absorb, addP]
  | cons y ys ih =>
    obtain ⟨k, rfl⟩ : ∃ k', k = k' + 2 := ⟨k - 2, by omega⟩
    obtain ⟨h1, h2, h3⟩ := drop_at hd
    simp only [List.length_cons] at hl hk
    rw [thermographref16_add.l0, if_pos (by omega), if_pos (by omega), rd_nat h2]
    by_cases h : y.f1 < a
    · rw [if_pos h, if_pos (by omega), w_succ h1 (by omega), ih (k + 1) (i + 1) (out ++ [(⟨y.f0, y.f1⟩ : S24)]) h3 h1 (by simp; omega) (by omega)]
      rw [addP, if_pos (show y.f1 < (⟨a, b⟩ : S24).f0 from h)]
      simp
    · rw [if_neg h, thermographref16_add.j1, add_l1 xs (y :: ys) k i out a b hd hi (by omega) (by simp; omega)]
      rw [addP, if_neg (show ¬ y.f1 < (⟨a, b⟩ : S24).f0 from h)]
theorem add_is (k : Nat) (l : List S24) (a b : Int) (hl : l.length < 1000000000000) (hk : l.length + 3 ≤ k) : thermographref16_add.f k l a b = some (addR l ⟨a, b⟩) := by
  unfold thermographref16_add.f addR
  by_cases h : b ≤ a
  · rw [if_pos h, if_pos h]
  · rw [if_neg h, if_neg h]
    have := add_l0 l l k 0 [] a b (by simp) (by omega) (by simp; omega) hk
    simpa using this
theorem refNormal_l0 (xs ys : List S24) (k i : Nat) (acc : List S24) (hd : xs.drop i = ys) (hi : i ≤ xs.length) (hl : xs.length + acc.length + ys.length < 1000000000) (hk : acc.length + 2 * ys.length + 4 ≤ k) :
    thermographref16_Normal.l0 k xs acc (i : Int) = some (ys.foldl addR acc) := by
  induction ys generalizing k i acc with
  | nil =>
    obtain ⟨k, rfl⟩ : ∃ k', k = k' + 1 := ⟨k - 1, by omega⟩
    have e := drop_end hd hi
    rw [thermographref16_Normal.l0, if_neg (by omega)]
    rfl
  | cons y ys ih =>
    obtain ⟨k, rfl⟩ : ∃ k', k = k' + 1 := ⟨k - 1, by omega⟩
    obtain ⟨h1, h2, h3⟩ := drop_at hd
    simp only [List.length_cons] at hl hk
    have hlen := addR_len acc ⟨y.f0, y.f1⟩
    rw [thermographref16_Normal.l0, if_pos (by omega), if_pos (by omega), rd_nat h2, add_is k acc _ _ (by omega) (by omega), some_bind, w_succ h1 (by omega), ih k (i + 1) _ h3 h1 (by omega) (by omega)]
    rfl
theorem refNormal_is (k : Nat) (l : List S24) (hl : l.length < 100000000) (hk : 2 * l.length + 4 ≤ k) : thermographref16_Normal.f k l = some (nf l) := by
  have := refNormal_l0 l l k 0 [] (by simp) (by omega) (by simp; omega) (by simp; omega)
  exact this
theorem same_l0 (xs ys : List S24) (k i : Nat) (hd : xs.drop i = ys) (hi : i ≤ xs.length) (hl : xs.length < 100000000) (hk : ys.length + 1 ≤ k) : thermographlaw16_same.l0 k xs xs (i : Int) = some true := by
  induction ys generalizing k i with
  | nil =>
    obtain ⟨k, rfl⟩ : ∃ k', k = k' + 1 := ⟨k - 1, by omega⟩
    have e := drop_end hd hi
    rw [thermographlaw16_same.l0, if_neg (by omega)]
  | cons y ys ih =>
    obtain ⟨k, rfl⟩ : ∃ k', k = k' + 1 := ⟨k - 1, by omega⟩
    obtain ⟨h1, h2, h3⟩ := drop_at hd
    simp only [List.length_cons] at hk
    rw [thermographlaw16_same.l0, if_pos (by omega), if_pos (by omega), if_pos (by omega), if_neg (by simp), w_succ h1 (by omega), ih k (i + 1) h3 h1 (by omega)]
theorem same_self (k : Nat) (l : List S24) (hl : l.length < 100000000) (hk : l.length + 1 ≤ k) : thermographlaw16_same.f k l l = some true := by
  unfold thermographlaw16_same.f
  rw [if_pos rfl]
  exact same_l0 l l k 0 (by simp) (by omega) hl hk
theorem has_l0 (xs ys : List S24) (t : Int) (k i : Nat) (hd : xs.drop i = ys) (hi : i ≤ xs.length) (hl : xs.length < 100000000) (hk : ys.length + 1 ≤ k) : thermographref16_Has.l0 k xs t (i : Int) = some (ys.any (within t)) := by
  induction ys generalizing k i with
  | nil =>
    obtain ⟨k, rfl⟩ : ∃ k', k = k' + 1 := ⟨k - 1, by omega⟩
    have e := drop_end hd hi
    rw [thermographref16_Has.l0, if_neg (by omega)]
    rfl
  | cons y ys ih =>
    obtain ⟨k, rfl⟩ : ∃ k', k = k' + 1 := ⟨k - 1, by omega⟩
    obtain ⟨h1, h2, h3⟩ := drop_at hd
    simp only [List.length_cons] at hk
    rw [thermographref16_Has.l0, if_pos (by omega), if_pos (by omega), rd_nat h2, w_succ h1 (by omega), ih k (i + 1) h3 h1 (by omega), List.any_cons]
    by_cases p : t ≥ y.f0
    · by_cases q : t < y.f1
      · rw [if_pos p, if_pos q, show within t y = true by simp [within]; omega]; rfl
      · rw [if_pos p, if_neg q, show within t y = false by simp [within]; omega]; rfl
    · rw [if_neg p, show within t y = false by simp [within]; omega]; rfl
theorem refHas_is (k : Nat) (l : List S24) (t : Int) (hl : l.length < 100000000) (hk : l.length + 1 ≤ k) : thermographref16_Has.f k l t = some (l.any (within t)) :=
  has_l0 l l t k 0 (by simp) (by omega) hl hk
theorem any_within (l : List S24) (t : Int) : l.any (within t) = true ↔ mem t l := by
  rw [List.any_eq_true]
  constructor
  · rintro ⟨x, hx, h⟩; simp [within] at h; exact ⟨x, hx, h⟩
  · rintro ⟨x, hx, h⟩; exact ⟨x, hx, by simp [within]; exact h⟩
theorem covers_l0 (xs ys : List S24) (a b : Int) (k i : Nat) (hd : xs.drop i = ys) (hi : i ≤ xs.length) (hl : xs.length < 100000000) (hk : ys.length + 1 ≤ k) : thermographref16_Covers.l0 k xs (i : Int) a b = some (ys.any (spans a b)) := by
  induction ys generalizing k i with
  | nil =>
    obtain ⟨k, rfl⟩ : ∃ k', k = k' + 1 := ⟨k - 1, by omega⟩
    have e := drop_end hd hi
    rw [thermographref16_Covers.l0, if_neg (by omega)]
    rfl
  | cons y ys ih =>
    obtain ⟨k, rfl⟩ : ∃ k', k = k' + 1 := ⟨k - 1, by omega⟩
    obtain ⟨h1, h2, h3⟩ := drop_at hd
    simp only [List.length_cons] at hk
    rw [thermographref16_Covers.l0, if_pos (by omega), if_pos (by omega), rd_nat h2, w_succ h1 (by omega), ih k (i + 1) h3 h1 (by omega), List.any_cons]
    by_cases p : y.f0 ≤ a
    · by_cases q : b ≤ y.f1
      · rw [if_pos p, if_pos q, show spans a b y = true by simp [spans]; omega]; rfl
      · rw [if_pos p, if_neg q, show spans a b y = false by simp [spans]; omega]; rfl
    · rw [if_neg p, show spans a b y = false by simp [spans]; omega]; rfl

/-! What is taken away. -/
def cutR (a b : Int) (x : S24) : List S24 := [⟨x.f0, min x.f1 a⟩, ⟨max x.f0 b, x.f1⟩]
def subF (l : List S24) (a b : Int) : List S24 := if b ≤ a then nf l else nf ((nf l).flatMap (cutR a b))
theorem mem_cut (l : List S24) (a b t : Int) (_h : a < b) : mem t (l.flatMap (cutR a b)) ↔ mem t l ∧ ¬ (a ≤ t ∧ t < b) := by
  induction l with
  | nil => simp [mem_nil]
  | cons x l ih =>
    rw [List.flatMap_cons, mem_append, ih, mem_cons]
    have : mem t (cutR a b x) ↔ (x.f0 ≤ t ∧ t < x.f1) ∧ ¬ (a ≤ t ∧ t < b) := by
      unfold cutR
      rw [mem_cons, mem_one]
      show (x.f0 ≤ t ∧ t < min x.f1 a) ∨ (max x.f0 b ≤ t ∧ t < x.f1) ↔ _
      omega
    rw [this, or_and_right]
theorem subF_mem (l : List S24) (a b t : Int) : mem t (subF l a b) ↔ mem t l ∧ ¬ (a ≤ t ∧ t < b) := by
  unfold subF
  split
  · rw [nf_mem]; constructor
    · intro h; exact ⟨h, by omega⟩
    · exact And.left
  · rw [nf_mem, mem_cut _ _ _ _ (by omega), nf_mem]
theorem subF_NF (l : List S24) (a b : Int) : NF (subF l a b) := by unfold subF; split <;> exact nf_NF _
theorem cut_len (l : List S24) (a b : Int) : (l.flatMap (cutR a b)).length = 2 * l.length := by
  induction l with
  | nil => rfl
  | cons x l ih => rw [List.flatMap_cons, List.length_append, ih]; simp [cutR]; omega
theorem subF_len (l : List S24) (a b : Int) : (subF l a b).length ≤ 2 * l.length := by
  unfold subF
  have := nf_len l
  split
  · omega
  · have h := nf_len ((nf l).flatMap (cutR a b)); rw [cut_len] at h; omega
theorem sub_l0 (xs ys : List S24) (a b : Int) (k i : Nat) (out : List S24) (hd : xs.drop i = ys) (hi : i ≤ xs.length) (hl : xs.length < 100000) (hlo : out.length + 2 * ys.length < 1000000) (hk : ys.length + 1 ≤ k) :
    ranges_Sub.l0 k out xs (xs.length : Int) (i : Int) a b = some (nf (out ++ ys.flatMap (cutR a b))) := by
  induction ys generalizing k i out with
  | nil =>
    obtain ⟨k, rfl⟩ : ∃ k', k = k' + 1 := ⟨k - 1, by omega⟩
    have e := drop_end hd hi
    rw [ranges_Sub.l0, if_neg (by omega), ranges_Normal.f, if_pos (by simp at hlo; omega), some_bind]
    simp
  | cons y ys ih =>
    obtain ⟨k, rfl⟩ : ∃ k', k = k' + 1 := ⟨k - 1, by omega⟩
    obtain ⟨h1, h2, h3⟩ := drop_at hd
    simp only [List.length_cons] at hk hlo
    rw [ranges_Sub.l0, if_pos (by omega), if_pos (by omega), if_pos (by omega), rd_nat h2, some_bind, if_pos (by simp; omega), w_succ h1 (by omega), ih k (i + 1) _ h3 h1 (by simp; omega) (by omega), mn_eq, mx_eq]
    rw [List.flatMap_cons, List.append_assoc]
    rfl
theorem sub_is (k : Nat) (l : List S24) (a b : Int) (hl : l.length < 100000) (hk : l.length + 1 ≤ k) : ranges_Sub.f k l a b = some (subF l a b) := by
  have hn := nf_len l
  have hN : ranges_Normal.f l = some (nf l) := if_pos (by omega)
  unfold ranges_Sub.f subF
  rw [hN]
  by_cases h : b ≤ a
  · rw [if_pos h, if_pos h]; rfl
  · rw [if_neg h, if_neg h, some_bind]
    have := sub_l0 (nf l) (nf l) a b k 0 [] (by simp) (by omega) (by omega) (by simp; omega) (by omega)
    simpa using this
theorem refSub_l0 (xs ys : List S24) (a b : Int) (k i : Nat) (acc : List S24) (hd : xs.drop i = ys) (hi : i ≤ xs.length) (hl : xs.length + acc.length + 2 * ys.length < 1000000000) (hk : acc.length + 3 * ys.length + 6 ≤ k) :
    thermographref16_Sub.l0 k xs acc (i : Int) a b = some ((ys.flatMap (cutR a b)).foldl addR acc) := by
  induction ys generalizing k i acc with
  | nil =>
    obtain ⟨k, rfl⟩ : ∃ k', k = k' + 1 := ⟨k - 1, by omega⟩
    have e := drop_end hd hi
    rw [thermographref16_Sub.l0, if_neg (by omega)]
    rfl
  | cons y ys ih =>
    obtain ⟨k, rfl⟩ : ∃ k', k = k' + 1 := ⟨k - 1, by omega⟩
    obtain ⟨h1, h2, h3⟩ := drop_at hd
    simp only [List.length_cons] at hl hk
    have g1 := addR_len acc ⟨y.f0, min y.f1 a⟩
    have g2 := addR_len (addR acc ⟨y.f0, min y.f1 a⟩) ⟨max y.f0 b, y.f1⟩
    rw [thermographref16_Sub.l0, if_pos (by omega), if_pos (by omega), rd_nat h2, mn_eq, mx_eq, add_is k acc _ _ (by omega) (by omega), some_bind, add_is k _ _ _ (by omega) (by omega), some_bind, w_succ h1 (by omega), ih k (i + 1) _ h3 h1 (by omega) (by omega)]
    rw [List.flatMap_cons, List.foldl_append]
    rfl
theorem refSub_is (k : Nat) (l : List S24) (a b : Int) (hl : l.length < 1000000) (hk : 3 * l.length + 6 ≤ k) : thermographref16_Sub.f k l a b = some (subF l a b) := by
  have hn := nf_len l
  unfold thermographref16_Sub.f subF
  rw [refNormal_is k l (by omega) (by omega), some_bind]
  by_cases h : b ≤ a
  · rw [if_pos h, if_pos h]
  · rw [if_neg h, if_neg h]
    exact refSub_l0 (nf l) (nf l) a b k 0 [] (by simp) (by omega) (by simp; omega) (by simp; omega)
theorem refAdd_is (k : Nat) (l : List S24) (a b : Int) (hl : l.length < 1000000) (hk : 3 * l.length + 6 ≤ k) : thermographref16_Add.f k l a b = some (nf (l ++ [⟨a, b⟩])) := by
  have hn := nf_len l
  unfold thermographref16_Add.f
  rw [refNormal_is k l (by omega) (by omega), some_bind, add_is k (nf l) a b (by omega) (by omega), some_bind, nf_snoc]
theorem refCovers_is (k : Nat) (l : List S24) (a b : Int) (hl : l.length < 1000000) (hk : 3 * l.length + 6 ≤ k) : thermographref16_Covers.f k l a b = ranges_Covers.f l a b := by
  have hn := nf_len l
  unfold thermographref16_Covers.f ranges_Covers.f
  by_cases h : b ≤ a
  · rw [if_pos h, if_pos h]
  · rw [if_neg h, if_neg h, refNormal_is k l (by omega) (by omega), some_bind, ranges_Normal.f, if_pos (by omega), some_bind]
    exact covers_l0 (nf l) (nf l) a b k 0 (by simp) (by omega) (by omega) (by omega)
end Go.Proofs.Ythdieelceafidaa.X
