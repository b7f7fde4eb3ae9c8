/- How many points the heads hold, read off the world. -/
import Derived.Test.YtfamnbejimbenaaTake
set_option linter.unusedVariables false
set_option linter.unusedSimpArgs false
namespace Go.Proofs.Ytfamnbejimbenaa.X
open Go.RowKit Go.Sort Go.Proofs.Ytfamnbejimbenaa.G
def lenV : Value → Nat
  | .slice _ n _ => n
  | _ => 0
def rowOf (v : Value) (w : World) : List Value :=
  match v with
  | .slice (some a) n _ => (match w.heap[a.block]? with
    | some (.cells cur _ _) => cur.toList.take n
    | _ => [])
  | _ => []
/-- The points left. -/
def meaW (g : Nat) (w : World) : Nat := (((w.cell? ⟨g, 0, none⟩).map fun v => ((rowOf v w).map lenV).sum).getD 0)
theorem sum_len (ls : List (List S24)) : ∀ (us : List Value), us.length = ls.length → (∀ (i : Nat) (x : List S24), ls[i]? = some x → ∃ u, us[i]? = some u ∧ lenV u = x.length) → (us.map lenV).sum = ls.flatten.length := by
  induction ls with
  | nil =>
    intro us hl _
    obtain rfl : us = [] := List.eq_nil_of_length_eq_zero hl
    rfl
  | cons x t ih =>
    intro us hl h
    cases us with
    | nil => cases hl
    | cons u s =>
      obtain ⟨u', h1, h2⟩ := h 0 x rfl
      obtain rfl : u = u' := by simpa using h1
      have := ih s (by simpa using hl) (fun i y hy => h (i + 1) y (by simpa using hy))
      simp only [List.map_cons, List.sum_cons, List.flatten_cons, List.length_append, h2, this]
theorem meaW_is {w : World} {B M g : Nat} {ls : List (List S24)} {v : Value} {us : List Value} (h : Hs w B M g ls v us) : meaW g w = ls.flatten.length := by
  unfold meaW
  rw [h.cell]
  have hr : rowOf v w = us := by
    rcases h.own.2 with ⟨rfl, h0⟩ | ⟨k, cap, cur, rfl, _, h1, _, _, _, h5⟩
    · have : us = [] := List.eq_nil_of_length_eq_zero (by rw [h.len, h0])
      rw [this]; rfl
    · unfold rowOf
      simp only [h1]
      rw [← h5, Nat.mul_one]
  simp only [Option.map_some, Option.getD_some, hr]
  refine sum_len ls us h.len (fun i x hi => ?_)
  obtain ⟨u, h1, b, o, c, rfl, _⟩ := h.hv i x hi
  exact ⟨_, h1, rfl⟩
end Go.Proofs.Ytfamnbejimbenaa.X
