/- What Next tells: the view's next. Plain. -/
import Derived.Test.YtfamnbejimbenaaPops
set_option linter.unusedVariables false
set_option linter.unusedSimpArgs false
namespace Go.Proofs.Ytfamnbejimbenaa.X
open Go.RowKit Go.Sort Go.Proofs.Ytfamnbejimbenaa.G
/-- The root is ahead of all. -/
theorem Inv.least {ls : List (List S24)} {p : S24} {r : List S24} (h : Inv ls) (h0 : 0 < ls.length) (hp : ls.getD 0 [] = p :: r) : ∀ q ∈ ls.flatten, p.f0 ≤ q.f0 ∧ (q.f0 = p.f0 → wins q p = false) := by
  intro q hq
  obtain ⟨x, hx, hqx⟩ := List.mem_flatten.1 hq
  obtain ⟨j, hj, rfl⟩ := List.getElem_of_mem hx
  have hr := Hp.heap_root weakH h.heap j hj
  have e : ls.getD j [] = ls[j] := by rw [List.getD_eq_getElem?_getD, List.getElem?_eq_getElem hj]; rfl
  rw [e, hp] at hr
  obtain ⟨hne, hri⟩ := h.ok _ hx
  generalize ls[j] = x at hr hne hri hqx
  obtain ⟨y, t, rfl⟩ : ∃ y t, x = y :: t := by cases x with | nil => exact absurd rfl hne | cons y t => exact ⟨y, t, rfl⟩
  rw [ltH_not] at hr
  simp only [hd, List.headD_cons] at hr
  rcases List.mem_cons.1 hqx with rfl | hqt
  · refine ⟨by omega, fun e => ?_⟩
    rw [wins_not]
    omega
  · have := (List.pairwise_cons.1 hri).1 q hqt
    refine ⟨by omega, fun e => by omega⟩
/-- All heads of one time struck. -/
def skip (t : Int) : Nat → List (List S24) → List (List S24)
  | 0, ls => ls
  | k + 1, ls => if 0 < ls.length ∧ (hd (ls.getD 0 [])).f0 = t then skip t k (taken ls (ls.getD 0 []).tail) else ls
theorem Inv.head {ls : List (List S24)} (h : Inv ls) (h0 : 0 < ls.length) : ∃ p r, ls.getD 0 [] = p :: r := by
  obtain ⟨x, t, rfl⟩ : ∃ x t, ls = x :: t := by cases ls with | nil => cases h0 | cons x t => exact ⟨x, t, rfl⟩
  have := (h.ok x (by simp)).1
  cases x with | nil => exact absurd rfl this | cons p r => exact ⟨p, r, rfl⟩
theorem skip_spec (t : Int) : ∀ (k : Nat) (ls : List (List S24)), Inv ls → (∀ q ∈ ls.flatten, t ≤ q.f0) → ls.flatten.length ≤ k → Inv (skip t k ls) ∧ (∀ q, q ∈ (skip t k ls).flatten ↔ q ∈ ls.flatten ∧ q.f0 ≠ t) := by
  intro k
  induction k with
  | zero =>
    intro ls h _ hk
    have : ls.flatten = [] := List.eq_nil_of_length_eq_zero (by omega)
    exact ⟨h, fun q => by simp only [skip, this, List.not_mem_nil, false_and]⟩
  | succ k ih =>
    intro ls h ht hk
    rw [skip]
    by_cases hc : 0 < ls.length ∧ (X.hd (ls.getD 0 [])).f0 = t
    · rw [if_pos hc]
      obtain ⟨p, r, hp⟩ := h.head hc.1
      obtain ⟨hi, hpm⟩ := h.taken hc.1 hp
      have hpt : p.f0 = t := by have := hc.2; rw [hp] at this; exact this
      rw [hp]
      have hln := hpm.length_eq
      simp only [List.length_cons] at hln
      obtain ⟨a1, a2⟩ := ih (taken ls r) hi (fun q hq => ht q (hpm.mem_iff.1 (by simp [hq]))) (by omega)
      refine ⟨a1, fun q => ?_⟩
      show q ∈ (skip t k (taken ls r)).flatten ↔ _
      rw [a2 q, ← hpm.mem_iff, List.mem_cons]
      constructor
      · rintro ⟨h1, h2⟩; exact ⟨.inr h1, h2⟩
      · rintro ⟨h1 | h1, h2⟩
        · exact absurd (by rw [h1]; exact hpt) h2
        · exact ⟨h1, h2⟩
    · rw [if_neg hc]
      refine ⟨h, fun q => ⟨fun hq => ⟨hq, fun e => ?_⟩, fun hq => hq.1⟩⟩
      have h0 : 0 < ls.length := by
        cases ls with
        | nil => simp at hq
        | cons _ _ => simp
      obtain ⟨p, r, hp⟩ := h.head h0
      have h1 := (h.least h0 hp q hq).1
      have hpm : p ∈ ls.flatten := (h.taken h0 hp).2.mem_iff.1 (by simp)
      have h2 := ht p hpm
      refine hc ⟨h0, ?_⟩
      rw [hp]
      simp only [X.hd, List.headD_cons]
      omega
/-- What Next leaves. -/
def nextL (ls : List (List S24)) : List (List S24) := skip (hd (ls.getD 0 [])).f0 ls.flatten.length (taken ls (ls.getD 0 []).tail)
theorem next_view {ls : List (List S24)} {p : S24} {r : List S24} (h : Inv ls) (h0 : 0 < ls.length) (hp : ls.getD 0 [] = p :: r) : Inv (nextL ls) ∧ view ls.flatten = p :: view (nextL ls).flatten := by
  unfold nextL
  rw [hp]
  obtain ⟨hi, hpm⟩ := h.taken h0 hp
  have hle := h.least h0 hp
  have hln := hpm.length_eq
  simp only [List.length_cons] at hln
  obtain ⟨a1, a2⟩ := skip_spec p.f0 ls.flatten.length (taken ls r) hi (fun q hq => (hle q (hpm.mem_iff.1 (by simp [hq]))).1) (by omega)
  refine ⟨a1, ?_⟩
  show view ls.flatten = p :: view (skip p.f0 ls.flatten.length (taken ls r)).flatten
  generalize (skip p.f0 ls.flatten.length (taken ls r)).flatten = m at a2
  have hv := view_is m
  have hmem : ∀ q, q ∈ m → q ∈ ls.flatten := fun q hq => hpm.mem_iff.1 (by simp [((a2 q).1 hq).1])
  refine (View.eq ⟨?_, ?_, ?_⟩).symm
  · refine List.pairwise_cons.2 ⟨fun q hq => ?_, hv.1⟩
    have h1 := hv.2 q hq
    have h2 := (a2 q).1 h1
    have h3 := (hle q (hmem q h1)).1
    omega
  · intro q hq
    rcases List.mem_cons.1 hq with rfl | hq
    · exact hpm.mem_iff.1 (by simp)
    · exact hmem q (hv.2 q hq)
  · intro q hq
    by_cases e : q.f0 = p.f0
    · exact ⟨p, by simp, e.symm, (hle q hq).2 e⟩
    · have hq' : q ∈ m := (a2 q).2 ⟨by
        rcases List.mem_cons.1 (hpm.mem_iff.2 hq) with h1 | h1
        · exact absurd (by rw [h1]) e
        · exact h1, e⟩
      obtain ⟨z, b1, b2, b3⟩ := hv.3 q hq'
      exact ⟨z, by simp [b1], b2, b3⟩
end Go.Proofs.Ytfamnbejimbenaa.X
