/- What a light row of names is. -/
import Derived.Test.YteeimkafcadinaaRBuild
namespace Go.Proofs.Yteeimkafcadinaa.X
open Go.RowKit Go.Sort Go.Proofs.Yteeimkafcadinaa.B Go.Proofs.Yteeimkafcadinaa Go.Proofs.YteeimkafcadinaaW.PrintWords Go.Proofs.YteeimkafcadinaaW.PrintLast Go.Proofs.YteeimkafcadinaaW.PrintMore

theorem mn_one (n : Nat) : 0 ≤ mn (n : Int) 1048576 ∧ mn (n : Int) 1048576 ≤ 1048576 ∧ (mn (n : Int) 1048576 ≤ 16384 → n ≤ 16384) := by
  unfold mn
  split <;> refine ⟨?_, ?_, ?_⟩ <;> omega
theorem heavy_at (l : List ByteArray) : ∀ (k i : Nat) (s : Int), i ≤ l.length → l.length - i < k → (l.length : Int) ≤ s →
    ∃ b, thermographlaw07_heavy.l0 k l s (i : Int) = some b ∧ (b = false → s ≤ 16384 ∧ ∀ j x, i ≤ j → l[j]? = some x → x.size ≤ 16384)
  | 0, i, s, _, h, _ => absurd h (Nat.not_lt_zero _)
  | k + 1, i, s, hi, h, h0 => by
    unfold thermographlaw07_heavy.l0
    by_cases hlt : i < l.length
    · rw [if_pos (show (i : Int) < (l.length : Int) by omega)]
      by_cases hs : s ≤ 16384
      · rw [if_pos hs, if_pos (by omega : (0 : Int) ≤ (i : Int))]
        have hrd : rdOf ByteArray.empty l (i : Int) = l[i] := by
          unfold rdOf
          simp [hlt]
        obtain ⟨m0, m1, m2⟩ := mn_one (l[i]).size
        rw [hrd, IntWalk.wrap64_in _ (by omega), IntWalk.wrap64_in _ (by omega)]
        obtain ⟨b, e, hb⟩ := heavy_at l k (i + 1) (s + mn ((l[i]).size : Int) 1048576) (by omega) (by omega) (by omega)
        refine ⟨b, by rw [← e]; rfl, fun hf => ?_⟩
        obtain ⟨g1, g2⟩ := hb hf
        refine ⟨by omega, fun j x hj hx => ?_⟩
        rcases Nat.lt_or_eq_of_le hj with h' | rfl
        · exact g2 j x h' hx
        · rw [List.getElem?_eq_getElem hlt] at hx
          obtain rfl := Option.some.inj hx
          exact m2 (by omega)
      · rw [if_neg hs]
        exact ⟨_, rfl, fun hf => absurd hf (by simp; omega)⟩
    · rw [if_neg (show ¬ (i : Int) < (l.length : Int) by omega)]
      refine ⟨_, rfl, fun hf => ⟨by simp at hf; omega, fun j x hj hx => ?_⟩⟩
      have := (List.getElem?_eq_some_iff.1 hx).1
      omega
/-- Light: few names, none long. -/
def Light (l : List ByteArray) : Prop := l.length ≤ 16384 ∧ ∀ x ∈ l, x.size ≤ 16384
theorem heavy_is (l : List ByteArray) : ∃ b, thermographlaw07_heavy.f (l.length + 1) l = some b ∧ (b = false → Light l) := by
  obtain ⟨b, e, hb⟩ := heavy_at l (l.length + 1) 0 (l.length : Int) (Nat.zero_le _) (by omega) (Int.le_refl _)
  refine ⟨b, e, fun hf => ?_⟩
  obtain ⟨g1, g2⟩ := hb hf
  refine ⟨by omega, fun x hx => ?_⟩
  obtain ⟨j, hj, rfl⟩ := List.getElem_of_mem hx
  exact g2 j _ (Nat.zero_le _) (List.getElem?_eq_getElem hj)
end Go.Proofs.Yteeimkafcadinaa.X
