/- What New builds. Plain. -/
import Derived.Test.YtfamnbejimbenaaPops
set_option linter.unusedVariables false
set_option linter.unusedSimpArgs false
namespace Go.Proofs.Ytfamnbejimbenaa.X
open Go.RowKit Go.Sort Go.Proofs.Ytfamnbejimbenaa.G
theorem Hs.mono {w : World} {B M M' g : Nat} {ls : List (List S24)} {v : Value} {us : List Value} (h : Hs w B M g ls v us) (hm : M ≤ M') : Hs w B M' g ls v us :=
  ⟨h.gB, h.box, h.own, fun i x hi => by
    obtain ⟨u, a0, b, o, c, a1, a2, a3, a4⟩ := h.hv i x hi
    exact ⟨u, a0, b, o, c, a1, a2, ⟨a3.1, by omega⟩, a4⟩, h.ne⟩
def put1 (l : List (List S24)) (x : List S24) : List (List S24) := if x = [] then l else pushed l x
/-- What New holds behind the lists xs. -/
def built (xs : List (List S24)) : List (List S24) := xs.foldl put1 []
theorem put1_inv {l : List (List S24)} {x : List S24} (h : Inv l) (hx : Rises x) : Inv (put1 l x) ∧ (put1 l x).flatten.Perm (l.flatten ++ x) := by
  unfold put1
  split
  · rename_i e
    subst e
    exact ⟨h, by simp⟩
  · rename_i e
    have hp := pushed_perm l x
    refine ⟨⟨pushed_heap l x h.heap, fun z hz => ?_⟩, by simpa using hp.flatten⟩
    rcases List.mem_append.1 (hp.mem_iff.1 hz) with h1 | h1
    · exact h.ok z h1
    · obtain rfl : z = x := by simpa using h1
      exact ⟨e, hx⟩
theorem fold_inv : ∀ (xs l : List (List S24)), Inv l → (∀ x ∈ xs, Rises x) → Inv (xs.foldl put1 l) ∧ (xs.foldl put1 l).flatten.Perm (l.flatten ++ xs.flatten) := by
  intro xs
  induction xs with
  | nil => intro l h _; exact ⟨h, by simp⟩
  | cons x t ih =>
    intro l h hx
    obtain ⟨a1, a2⟩ := put1_inv h (hx x (by simp))
    obtain ⟨b1, b2⟩ := ih (put1 l x) a1 (fun y hy => hx y (by simp [hy]))
    refine ⟨b1, b2.trans ?_⟩
    have := a2.append_right t.flatten
    simpa using this
theorem built_inv (xs : List (List S24)) (hx : ∀ x ∈ xs, Rises x) : Inv (built xs) ∧ (built xs).flatten.Perm xs.flatten := by
  have := fold_inv xs [] ⟨fun j h0 h1 => by simp at h1, fun x hx => by simp at hx⟩ hx
  simpa [built] using this
end Go.Proofs.Ytfamnbejimbenaa.X
