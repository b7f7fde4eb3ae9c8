/- MergeViews, MergeParts, MergeBest, as printed, tell true of any lists of points. -/
import Derived.Test.YtfamnbejimbenaaGx6
import Derived.Test.YtfamnbejimbenaaGx7
import Derived.Test.YtfamnbejimbenaaGx8
import Derived.Test.YtfamnbejimbenaaRef
namespace Go.Proofs.Ytfamnbejimbenaa.X
open Go.RowKit Go.Proofs.Ytfamnbejimbenaa.G Go.Proofs.YtfamnbejimbenaaW.PrintWords Go.Proofs.YtfamnbejimbenaaW.PrintLast Go.Proofs.YtfamnbejimbenaaW.PrintMore

/-- With rounds enough it tells true. -/
def Yes (g : Nat → Option Bool) : Prop := ∃ K, ∀ k, K ≤ k → g k = some true
theorem Yes.next {g h : Nat → Option Bool} (M : Nat) (hh : Yes h) (e : ∀ k, M ≤ k → g (k + 1) = h k) : Yes g := by
  obtain ⟨K, hK⟩ := hh
  refine ⟨K + M + 1, fun k hk => ?_⟩
  obtain ⟨k, rfl⟩ : ∃ m, k = m + 1 := ⟨k - 1, by omega⟩
  rw [e k (by omega)]
  exact hK k (by omega)
theorem Yes.same {g h : Nat → Option Bool} (M : Nat) (hh : Yes h) (e : ∀ k, M ≤ k → g k = h k) : Yes g := by
  obtain ⟨K, hK⟩ := hh
  refine ⟨K + M, fun k hk => ?_⟩
  rw [e k (by omega)]
  exact hK k (by omega)
theorem Yes.one {g : Nat → Option Bool} (M : Nat) (e : ∀ k, M ≤ k → g (k + 1) = some true) : Yes g := by
  refine ⟨M + 1, fun k hk => ?_⟩
  obtain ⟨k, rfl⟩ : ∃ m, k = m + 1 := ⟨k - 1, by omega⟩
  exact e k (by omega)
/-- The bound that the laws begin with. -/
def Light (l : List (List S24)) : Prop := l.length + l.flatten.length ≤ 8192
/-- How long lists can be in memory. -/
def Short (l : List (List S24)) : Prop := l.length < 140737488355328 ∧ ∀ x ∈ l, x.length < 140737488355328
theorem merge_is (l : List (List S24)) (h1 : l.length ≤ 1000000) (h2 : l.flatten.length ≤ 1000000) : merge_Merge.f l = some (view l.flatten) := if_pos ⟨h1, h2⟩

theorem heavy_ev (l : List (List S24)) (hs : Short l) : ∃ b, (∀ k, l.length < k → thermographlaw06_heavy.f k l = some b) ∧ (b = false → Light l) := by
  obtain ⟨b, hb, h⟩ := heavy_is (l.length + 1) l hs.1 hs.2 (by omega)
  exact ⟨b, fun k hk => at_rounds (thermographlaw06_heavy.mono l) (by omega) hb, h⟩
theorem Yes.start {l : List (List S24)} (hs : Short l) {g : Nat → Option Bool} {h : Nat → Option Bool} (e : ∀ k, g k = (thermographlaw06_heavy.f k l).bind fun b => if b = true then some true else h k) (hh : Light l → Yes h) : Yes g := by
  obtain ⟨b, hb, hl⟩ := heavy_ev l hs
  cases b with
  | true => exact ⟨l.length + 1, fun k hk => by rw [e, hb k (by omega)]; rfl⟩
  | false => exact (hh (hl rfl)).same (l.length + 1) fun k hk => by rw [e, hb k (by omega)]; rfl

/-! MergeViews -/
theorem views_l1 (m : List S24) (hm : m.length ≤ 8192) : ∀ (d i : Nat), m.length - i = d → i ≤ m.length → Yes (fun k => thermographlaw06_MergeViews.l1 k m (i : Int)) := by
  intro d
  induction d with
  | zero =>
    intro i hd hi
    refine Yes.one 0 fun k _ => ?_
    simp only [thermographlaw06_MergeViews.l1]
    rw [w64 i (by omega), if_neg (by omega)]
  | succ d ih =>
    intro i hd hi'
    by_cases hi : i + 1 < m.length
    · obtain ⟨x, ex⟩ := at_some (xs := m) (i := i) (by omega)
      obtain ⟨y, ey⟩ := at_some hi
      refine (ih (i + 1) (by omega) (by omega)).next 0 fun k _ => ?_
      simp only [thermographlaw06_MergeViews.l1]
      rw [w64 i (by omega), if_pos (ltN ey), if_pos (by omega), if_pos (ltN ex), if_pos (by omega), rdT ex, rdT ey, mwins, some_bind, rwins, some_bind]
      simp
    · refine Yes.one 0 fun k _ => ?_
      simp only [thermographlaw06_MergeViews.l1]
      rw [w64 i (by omega), if_neg (by omega)]
theorem views_l0 (l : List (List S24)) (m : List S24) (hl : Light l) (hm : m.length ≤ 8192) : ∀ (d i : Nat), l.length - i = d → i ≤ l.length → Yes (fun k => thermographlaw06_MergeViews.l0 k l l m (i : Int)) := by
  unfold Light at hl
  intro d
  induction d with
  | zero =>
    intro i hd hi
    refine (views_l1 m hm (m.length - 0) 0 rfl (by omega)).next 0 fun k _ => ?_
    simp only [thermographlaw06_MergeViews.l0]
    rw [if_neg (by omega)]
    rfl
  | succ d ih =>
    intro i hd hi
    obtain ⟨x, e⟩ := at_some (xs := l) (i := i) (by omega)
    have hx := each_le (List.mem_of_getElem? e)
    refine (ih (i + 1) (by omega) (by omega)).next 10000 fun k hk => ?_
    simp only [thermographlaw06_MergeViews.l0]
    rw [if_pos (ltN e), if_pos (by omega), if_pos (ltN e), rdL e, same_self k x (by omega) (by omega), some_bind, if_pos rfl, w64 i (by omega)]
theorem views_yes (l : List (List S24)) (a b : Int) (hs : Short l) : Yes (fun k => thermographlaw06_MergeViews.f k l a b) := by
  refine Yes.start hs (fun k => rfl) fun hl => ?_
  have hv := view_len l.flatten
  have hl' := hl
  unfold Light at hl'
  refine (((views_l0 l (view l.flatten) hl (by omega) (l.length - 0) 0 rfl (by omega))).next (h := _) (g := fun k => thermographlaw06_MergeViews.j0 k l l (view l.flatten) false) 0 fun k _ => ?_).same 7000000 fun k hk => ?_
  · simp only [thermographlaw06_MergeViews.j0]
    rfl
  · have hf := List.length_filter_le (inR a b) (view l.flatten)
    rw [copied_is k l (by omega) (by omega) (by omega), some_bind, merge_is l (by omega) (by omega), some_bind, rmerge_is k l (by omega) (by omega) (by omega), some_bind, same_self k _ (by omega) (by omega), some_bind, if_pos rfl,
      mcut_is k _ a b (by omega) (by omega), some_bind, rcut_is k _ a b (by omega) (by omega), some_bind, same_self k _ (by omega) (by omega), some_bind]
    rfl

/-! MergeParts -/
/-- The lists, each and all of them turned round. -/
def turned (l : List (List S24)) : List (List S24) := (l.map List.reverse).reverse
theorem turned_len (l : List (List S24)) : (turned l).length = l.length := by simp [turned]
theorem turned_mem (l : List (List S24)) (p : S24) : p ∈ (turned l).flatten ↔ p ∈ l.flatten := by
  simp only [turned, List.mem_flatten, List.mem_reverse, List.mem_map]
  constructor
  · rintro ⟨x, ⟨y, hy, rfl⟩, hp⟩
    exact ⟨y, hy, List.mem_reverse.1 hp⟩
  · rintro ⟨y, hy, hp⟩
    exact ⟨y.reverse, ⟨y, hy, rfl⟩, List.mem_reverse.2 hp⟩
theorem turned_cons (x : List S24) (l : List (List S24)) : turned (x :: l) = turned l ++ [x.reverse] := by simp [turned]
theorem turned_flat (l : List (List S24)) : (turned l).flatten.length = l.flatten.length := by
  induction l with
  | nil => rfl
  | cons x l ih => rw [turned_cons, List.flatten_append, List.length_append, ih]; simp; omega
theorem parts_end (l : List (List S24)) (n : Nat) (hl : Light l) : Yes (fun k => thermographlaw06_MergeParts.l0 k l (view l.flatten) [view (l.drop n).flatten, view (l.take n).flatten, view l.flatten] (turned l) (-1)) := by
  unfold Light at hl
  have v0 := view_len l.flatten
  have v1 := view_len (l.drop n).flatten
  have v2 := view_len (l.take n).flatten
  have f0 : (l.take n).flatten.length + (l.drop n).flatten.length = l.flatten.length := by
    rw [← List.length_append, ← List.flatten_append, List.take_append_drop]
  have hmem : ∀ p, p ∈ l.flatten ↔ p ∈ (l.take n).flatten ∨ p ∈ (l.drop n).flatten := fun p => by
    rw [← List.mem_append, ← List.flatten_append, List.take_append_drop]
  have hV := view_is l.flatten
  have hT : view ([view (l.drop n).flatten, view (l.take n).flatten, view l.flatten] : List (List S24)).flatten = view l.flatten := by
    refine (hV.more (fun p hp => ?_) (fun p hp => ?_)).eq.symm
    · simp only [List.flatten_cons, List.flatten_nil, List.append_nil, List.mem_append] at hp
      rcases hp with hp | hp | hp
      · exact (hmem p).2 (.inr ((view_is _).sub p hp))
      · exact (hmem p).2 (.inl ((view_is _).sub p hp))
      · exact hV.sub p hp
    · simp only [List.flatten_cons, List.flatten_nil, List.append_nil, List.mem_append]
      exact .inr (.inr hp)
  have hB : view (turned l).flatten = view l.flatten := view_congr fun p => turned_mem l p
  have t1 := turned_len l
  have t2 := turned_flat l
  refine Yes.one 7000000 fun k hk => ?_
  simp only [thermographlaw06_MergeParts.l0]
  rw [if_neg (by decide), rmerge_is k l (by omega) (by omega) (by omega), some_bind, same_self k _ (by omega) (by omega), some_bind, if_pos rfl,
    merge_is _ (by simp) (by simp only [List.flatten_cons, List.flatten_nil, List.append_nil, List.length_append]; omega), some_bind, hT, same_self k _ (by omega) (by omega), some_bind, if_pos rfl,
    merge_is _ (by omega) (by omega), some_bind, hB, same_self k _ (by omega) (by omega), some_bind]
theorem parts_l1 (l : List (List S24)) (v : List S24) (two back : List (List S24)) (i : Nat) (x : List S24) (e : l[i]? = some x) (hx : x.length ≤ 8192) (hb : back.length ≤ 8192) (hi : i ≤ 8192)
    (hend : Yes (fun k => thermographlaw06_MergeParts.l0 k l v two (back ++ [x.reverse]) ((i : Int) - 1))) : ∀ (j : Nat), j ≤ x.length → Yes (fun k => thermographlaw06_MergeParts.l1 k l v two back (i : Int) ((x.drop j).reverse) ((j : Int) - 1)) := by
  intro j
  induction j with
  | zero =>
    intro _
    refine hend.next 0 fun k _ => ?_
    simp only [thermographlaw06_MergeParts.l1]
    rw [if_neg (by omega), if_pos (by omega), show wrap64 ((i : Int) - 1) = (i : Int) - 1 by unfold wrap64; omega]
    rfl
  | succ j ih =>
    intro hj
    obtain ⟨p, ep⟩ := at_some (xs := x) (i := j) (by omega)
    refine (ih (by omega)).next 0 fun k _ => ?_
    have hj1 : ((j + 1 : Nat) : Int) - 1 = (j : Int) := by omega
    simp only [thermographlaw06_MergeParts.l1]
    rw [hj1, if_pos (by omega), if_pos (by omega), if_pos (ltN e), if_pos (by omega), rdL e, if_pos (ltN ep), if_pos (by simp; omega), rdT ep, eta24, show wrap64 ((j : Int) - 1) = (j : Int) - 1 by unfold wrap64; omega, dropC ep, List.reverse_cons]
theorem parts_l0 (l : List (List S24)) (v : List S24) (two : List (List S24)) (hl : Light l) (hend : Yes (fun k => thermographlaw06_MergeParts.l0 k l v two (turned l) (-1))) : ∀ (i : Nat), i ≤ l.length → Yes (fun k => thermographlaw06_MergeParts.l0 k l v two (turned (l.drop i)) ((i : Int) - 1)) := by
  have hl' := hl
  unfold Light at hl'
  intro i
  induction i with
  | zero => intro _; exact hend
  | succ i ih =>
    intro hi
    obtain ⟨x, e⟩ := at_some (xs := l) (i := i) (by omega)
    have hx := each_le (List.mem_of_getElem? e)
    have ht := turned_len (l.drop (i + 1))
    rw [List.length_drop] at ht
    have h0 := ih (by omega)
    rw [dropC e, turned_cons] at h0
    have h1 := parts_l1 l v two (turned (l.drop (i + 1))) i x e (by omega) (by omega) (by omega) h0 x.length (Nat.le_refl _)
    refine h1.next 0 fun k _ => ?_
    have hi1 : ((i + 1 : Nat) : Int) - 1 = (i : Int) := by omega
    simp only [thermographlaw06_MergeParts.l0]
    rw [hi1, if_pos (by omega), if_pos (by omega), if_pos (ltN e), rdL e, show wrap64 ((x.length : Int) - 1) = (x.length : Int) - 1 by unfold wrap64; omega, List.drop_length]
    rfl
theorem parts_yes (l : List (List S24)) (n : Int) (hs : Short l) : Yes (fun k => thermographlaw06_MergeParts.f k l n) := by
  obtain ⟨b, hb, hl⟩ := heavy_ev l hs
  have hj : ∀ (c : Bool), (c = false → Light l ∧ 0 < l.length) → Yes (fun k => thermographlaw06_MergeParts.j0 k l n c) := by
    intro c hc
    cases c with
    | true => exact Yes.one 0 fun k _ => by simp only [thermographlaw06_MergeParts.j0]; rfl
    | false =>
      obtain ⟨hl, hp⟩ := hc rfl
      have hl' := hl
      unfold Light at hl'
      obtain ⟨q, hq, hqn⟩ : ∃ q : Nat, Int.tmod (wrap64 ((Int.tmod n (l.length : Int)) + (l.length : Int))) (l.length : Int) = (q : Int) ∧ q ≤ l.length := by
        have b1 := Int.tmod_lt_of_pos n (b := (l.length : Int)) (by omega)
        have b2 := Int.lt_tmod_of_pos n (b := (l.length : Int)) (by omega)
        have e1 : wrap64 ((Int.tmod n (l.length : Int)) + (l.length : Int)) = (Int.tmod n (l.length : Int)) + (l.length : Int) := by unfold wrap64; omega
        rw [e1]
        have b3 := Int.tmod_nonneg (a := Int.tmod n (l.length : Int) + (l.length : Int)) (l.length : Int) (by omega)
        have b4 := Int.tmod_lt_of_pos (Int.tmod n (l.length : Int) + (l.length : Int)) (b := (l.length : Int)) (by omega)
        exact ⟨(Int.tmod (Int.tmod n (l.length : Int) + (l.length : Int)) (l.length : Int)).toNat, by omega, by omega⟩
      have f0 : (l.take q).flatten.length + (l.drop q).flatten.length = l.flatten.length := by
        rw [← List.length_append, ← List.flatten_append, List.take_append_drop]
      have h0 := parts_l0 l (view l.flatten) [view (l.drop q).flatten, view (l.take q).flatten, view l.flatten] hl (parts_end l q hl) l.length (Nat.le_refl _)
      refine h0.next 0 fun k _ => ?_
      simp only [thermographlaw06_MergeParts.j0]
      rw [if_neg (by decide), if_neg (by omega), merge_is l (by omega) (by omega), some_bind, hq, if_pos (by omega), if_pos (by omega), Int.toNat_natCast,
        merge_is _ (by rw [List.length_drop]; omega) (by omega), some_bind, merge_is _ (by rw [List.length_take]; omega) (by omega), some_bind, show wrap64 ((l.length : Int) - 1) = (l.length : Int) - 1 by unfold wrap64; omega, List.drop_length]
      rfl
  cases b with
  | true => exact (hj true (fun h => by cases h)).same (l.length + 1) fun k hk => by simp only [thermographlaw06_MergeParts.f]; rw [hb k (by omega)]; rfl
  | false =>
    refine (hj ((l.length : Int) == 0) fun h => ⟨hl rfl, ?_⟩).same (l.length + 1) fun k hk => by simp only [thermographlaw06_MergeParts.f]; rw [hb k (by omega)]; rfl
    have := beq_eq_false_iff_ne.1 h
    omega

/-! MergeBest -/
theorem best_found (m : List S24) (hr : Rises m) (p q : S24) (lo : Nat) (hq : q ∈ m) (e : q.f0 = p.f0) (h1 : ∀ j x, j < lo → m[j]? = some x → x.f0 < p.f0) (h2 : ∀ j x, lo ≤ j → m[j]? = some x → p.f0 ≤ x.f0) : m[lo]? = some q := by
  obtain ⟨j, hj⟩ := List.getElem?_of_mem hq
  have hjl := (List.getElem?_eq_some_iff.1 hj).1
  rcases Nat.lt_trichotomy j lo with h | rfl | h
  · have := h1 j q h hj; omega
  · exact hj
  · obtain ⟨x, ex⟩ := at_some (xs := m) (i := lo) (by omega)
    have h3 := h2 lo x (Nat.le_refl _) ex
    have h4 := (List.pairwise_iff_getElem.1 hr) lo j (by omega) hjl h
    rw [(List.getElem?_eq_some_iff.1 ex).2, (List.getElem?_eq_some_iff.1 hj).2] at h4
    omega
theorem best_l3 (l : List (List S24)) (m : List S24) (hm : m.length ≤ 8192) (hr : Rises m) (i j : Nat) (p q : S24) (hq : q ∈ m) (e : q.f0 = p.f0) (hw : wins p q = false) (hj : j ≤ 8192)
    (hend : Yes (fun k => thermographlaw06_MergeBest.l2 k l m (i : Int) ((j + 1 : Nat) : Int))) :
    ∀ (d lo hi : Nat), hi - lo = d → lo ≤ hi → hi ≤ m.length → (∀ j x, j < lo → m[j]? = some x → x.f0 < p.f0) → (∀ j x, hi ≤ j → m[j]? = some x → p.f0 ≤ x.f0) →
    Yes (fun k => thermographlaw06_MergeBest.l3 k l m (i : Int) (j : Int) (lo : Int) (hi : Int) p.f0 p.f1 p.f2) := by
  intro d
  induction d using Nat.strongRecOn with
  | ind d ih =>
    intro lo hi hd hle hhi h1 h2
    by_cases hlt : lo < hi
    · have hmid : wrap64 (Int.tdiv (wrap64 ((lo : Int) + (hi : Int))) 2) = (((lo + hi) / 2 : Nat) : Int) := by
        rw [show wrap64 ((lo : Int) + (hi : Int)) = ((lo + hi : Nat) : Int) by unfold wrap64; omega, Int.tdiv_eq_ediv_of_nonneg (by omega)]
        unfold wrap64; omega
      obtain ⟨x, ex⟩ := at_some (xs := m) (i := (lo + hi) / 2) (by omega)
      have hp := List.pairwise_iff_getElem.1 hr
      by_cases hx : x.f0 < p.f0
      · refine (ih (hi - ((lo + hi) / 2 + 1)) (by omega) ((lo + hi) / 2 + 1) hi rfl (by omega) hhi (fun j y hj hy => ?_) h2).next 0 fun k _ => ?_
        · rcases Nat.lt_or_eq_of_le (Nat.le_of_lt_succ hj) with h | rfl
          · have hjl := (List.getElem?_eq_some_iff.1 hy).1
            have h4 := hp j ((lo + hi) / 2) hjl (by omega) h
            rw [(List.getElem?_eq_some_iff.1 hy).2, (List.getElem?_eq_some_iff.1 ex).2] at h4
            omega
          · rw [ex] at hy
            obtain rfl := Option.some.inj hy
            exact hx
        · simp only [thermographlaw06_MergeBest.l3]
          rw [if_pos (by omega), hmid, if_pos (by omega), if_pos (ltN ex), rdT ex, if_pos hx, w64 _ (by omega)]
      · refine (ih ((lo + hi) / 2 - lo) (by omega) lo ((lo + hi) / 2) rfl (by omega) (by omega) h1 (fun j y hj hy => ?_)).next 0 fun k _ => ?_
        · rcases Nat.lt_or_eq_of_le hj with h | rfl
          · have hjl := (List.getElem?_eq_some_iff.1 hy).1
            have h4 := hp ((lo + hi) / 2) j (by omega) hjl h
            rw [(List.getElem?_eq_some_iff.1 hy).2, (List.getElem?_eq_some_iff.1 ex).2] at h4
            omega
          · rw [ex] at hy
            obtain rfl := Option.some.inj hy
            omega
        · simp only [thermographlaw06_MergeBest.l3]
          rw [if_pos (by omega), hmid, if_pos (by omega), if_pos (ltN ex), rdT ex, if_neg hx]
    · obtain rfl : lo = hi := by omega
      have hf := best_found m hr p q lo hq e h1 h2
      have hl := (List.getElem?_eq_some_iff.1 hf).1
      refine hend.next 0 fun k _ => ?_
      simp only [thermographlaw06_MergeBest.l3]
      rw [if_neg (by omega), if_neg (by omega), if_pos (by omega), if_pos (by omega), rdT hf, if_pos e, rwins, some_bind, hw, if_neg (by decide), w64 j (by omega)]
theorem best_l2 (l : List (List S24)) (hl : Light l) (i : Nat) (x : List S24) (ex : l[i]? = some x) (hend : Yes (fun k => thermographlaw06_MergeBest.l1 k l (view l.flatten) ((i + 1 : Nat) : Int))) :
    ∀ (d j : Nat), x.length - j = d → j ≤ x.length → Yes (fun k => thermographlaw06_MergeBest.l2 k l (view l.flatten) (i : Int) (j : Int)) := by
  have hl' := hl
  unfold Light at hl'
  have hi := (List.getElem?_eq_some_iff.1 ex).1
  have hxl := each_le (List.mem_of_getElem? ex)
  have hv := view_len l.flatten
  intro d
  induction d with
  | zero =>
    intro j hd hj
    refine hend.next 0 fun k _ => ?_
    simp only [thermographlaw06_MergeBest.l2]
    rw [if_pos (by omega), if_pos (ltN ex), rdL ex, if_neg (by omega), w64 i (by omega)]
  | succ d ih =>
    intro j hd hj
    obtain ⟨p, ep⟩ := at_some (xs := x) (i := j) (by omega)
    have hp : p ∈ l.flatten := List.mem_flatten.2 ⟨x, List.mem_of_getElem? ex, List.mem_of_getElem? ep⟩
    obtain ⟨q, hq, e, hw⟩ := (view_is l.flatten).best p hp
    refine (best_l3 l (view l.flatten) (by omega) (view_is l.flatten).rises i j p q hq e hw (by omega) (ih (j + 1) (by omega) (by omega)) _ 0 (view l.flatten).length rfl (Nat.zero_le _) (Nat.le_refl _) (fun j y hj _ => absurd hj (Nat.not_lt_zero _)) (fun j y hj hy => ?_)).next 0 fun k _ => ?_
    · have := (List.getElem?_eq_some_iff.1 hy).1; omega
    · simp only [thermographlaw06_MergeBest.l2]
      rw [if_pos (by omega), if_pos (ltN ex), rdL ex, if_pos (ltN ep), if_pos (by omega), rdT ep]
      rfl
theorem best_l1 (l : List (List S24)) (hl : Light l) : ∀ (d i : Nat), l.length - i = d → i ≤ l.length → Yes (fun k => thermographlaw06_MergeBest.l1 k l (view l.flatten) (i : Int)) := by
  intro d
  induction d with
  | zero =>
    intro i hd hi
    refine Yes.one 0 fun k _ => ?_
    simp only [thermographlaw06_MergeBest.l1]
    rw [if_neg (by omega)]
  | succ d ih =>
    intro i hd hi
    obtain ⟨x, ex⟩ := at_some (xs := l) (i := i) (by omega)
    refine (best_l2 l hl i x ex (ih (i + 1) (by omega) (by omega)) _ 0 rfl (Nat.zero_le _)).next 0 fun k _ => ?_
    simp only [thermographlaw06_MergeBest.l1]
    rw [if_pos (ltN ex)]
    rfl
theorem best_l0 (l : List (List S24)) (hl : Light l) : ∀ (d i : Nat), (view l.flatten).length - i = d → Yes (fun k => thermographlaw06_MergeBest.l0 k l (view l.flatten) ((i + 1 : Nat) : Int)) := by
  have hl' := hl
  unfold Light at hl'
  have hv := view_len l.flatten
  have hr := List.pairwise_iff_getElem.1 (view_is l.flatten).rises
  have hlast : ∀ i, ¬ i + 1 < (view l.flatten).length → Yes (fun k => thermographlaw06_MergeBest.l0 k l (view l.flatten) ((i + 1 : Nat) : Int)) := by
    intro i hi
    refine (best_l1 l hl _ 0 rfl (Nat.zero_le _)).next 0 fun k _ => ?_
    simp only [thermographlaw06_MergeBest.l0]
    rw [if_neg (by omega)]
    rfl
  intro d
  induction d with
  | zero => intro i hd; exact hlast i (by omega)
  | succ d ih =>
    intro i hd
    by_cases hi : i + 1 < (view l.flatten).length
    · obtain ⟨x, ex⟩ := at_some (xs := view l.flatten) (i := i) (by omega)
      obtain ⟨y, ey⟩ := at_some hi
      refine (ih (i + 1) (by omega)).next 0 fun k _ => ?_
      have h4 := hr i (i + 1) (by omega) hi (by omega)
      rw [(List.getElem?_eq_some_iff.1 ex).2, (List.getElem?_eq_some_iff.1 ey).2] at h4
      simp only [thermographlaw06_MergeBest.l0]
      rw [if_pos (ltN ey), if_pos (by omega), w64p i (by omega), if_pos (by omega), if_pos (ltN ex), rdT ex, rdT ey, if_neg (by omega), w64 (i + 1) (by omega)]
    · exact hlast i hi
theorem best_yes (l : List (List S24)) (hs : Short l) : Yes (fun k => thermographlaw06_MergeBest.f k l) := by
  refine Yes.start hs (fun k => rfl) fun hl => ?_
  have hl' := hl
  unfold Light at hl'
  refine (best_l0 l hl _ 0 rfl).same 0 fun k _ => ?_
  rw [merge_is l (by omega) (by omega), some_bind]
  rfl
end Go.Proofs.Ytfamnbejimbenaa.X
