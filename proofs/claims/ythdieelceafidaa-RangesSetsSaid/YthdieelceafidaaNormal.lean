/- ranges.Normal of any ranges is the normal list of their times: the contract, in the print's form. -/
import Derived.Test.YthdieelceafidaaSet
namespace Go.Proofs.Ythdieelceafidaa.X
open Go.RowKit Go.Proofs.Ythdieelceafidaa.G Go.Proofs.YthdieelceafidaaW.PrintWords Go.Proofs.YthdieelceafidaaW.PrintLast Go.Proofs.YthdieelceafidaaW.PrintMore

def ranges_Normal.f (l0 : List S24) : Option (List S24) := if l0.length < 1000000 then some (nf l0) else none
theorem ranges_Normal.calls (A0 : Option Addr) (c0 : Nat) (l0 : List S24) (r : List S24) (w : World) (hr0 : Kd.C k24 w A0 l0.length l0) (_hc0 : l0.length ≤ c0) (h : ranges_Normal.f l0 = some r) :
    Calls Try.prog 8 #[.slice A0 l0.length c0] w fun e w' => ∃ v0_ : Value, e = .returned v0_ ∧ Kd.R k24 24 w' w.heap.size (fun _ => True) v0_ r ∧ Below w.heap.size w w' := by
  unfold ranges_Normal.f at h
  split at h
  · rename_i hn
    obtain rfl := Option.some.inj h
    cases A0 with
    | none =>
      have h0 : l0 = [] := by
        rcases Nat.eq_zero_or_pos l0.length with h1 | h1
        · exact List.eq_nil_of_length_eq_zero h1
        · obtain ⟨ad, e, _⟩ := hr0.2.2 h1
          cases e
      subst h0
      refine (normal_nil c0 w).mono ?_
      rintro e w' ⟨rfl, hb⟩
      exact ⟨_, rfl, Kd.R_nil _ _ _ _ _, hb⟩
    | some ad =>
      refine (normal_some ad c0 l0 w hn hr0).mono ?_
      rintro e w' ⟨v, ys, rfl, hp, hs, hR, hb⟩
      rw [made_nf hp hs] at hR
      exact ⟨v, rfl, hR, hb⟩
  · cases h
end Go.Proofs.Ythdieelceafidaa.X
