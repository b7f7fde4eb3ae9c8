/- MergeViews, MergeParts, MergeBest: the Go calls return true, for any lists that memory can hold. -/
import Derived.Test.YtfamnbejimbenaaLaws
import Derived.Test.YtfamnbejimbenaaOpen
namespace Go.Proofs.Ytfamnbejimbenaa.X
open Go.RowKit Go.Proofs.Ytfamnbejimbenaa.G Go.Proofs.YtfamnbejimbenaaW.PrintWords Go.Proofs.YtfamnbejimbenaaW.PrintLast Go.Proofs.YtfamnbejimbenaaW.PrintMore

theorem short_of {l : List (List S24)} (h : l.length * 24 ≤ reachBytes ∧ ∀ xs ∈ l, xs.length * 24 ≤ reachBytes ∧ ∀ y ∈ xs, Fits y) : Short l := by
  have hr : reachBytes = 140737488351232 := rfl
  rw [hr] at h
  refine ⟨by omega, fun x hx => ?_⟩
  have := (h.2 x hx).1
  omega
theorem views_calls (A0 : Option Addr) (c0 : Nat) (l : List (List S24)) (a b : Int) (w : World) (hC : Kd.C (Kd.slice 24 k24) w A0 l.length l) (hc : l.length ≤ c0) (hs : Short l) :
    Calls Try.prog 8 #[.slice A0 l.length c0, .agg #[.int .i64 a, .int .i64 b]] w fun e w' => e = .returned (.bool true) ∧ Below w.heap.size w w' := by
  obtain ⟨K, hK⟩ := views_yes l a b hs
  exact thermographlaw06_MergeViews.calls K A0 c0 l a b true w hC hc (hK K (Nat.le_refl K))
theorem parts_calls (A0 : Option Addr) (c0 : Nat) (l : List (List S24)) (n : Int) (w : World) (hC : Kd.C (Kd.slice 24 k24) w A0 l.length l) (hc : l.length ≤ c0) (hs : Short l) :
    Calls Try.prog 6 #[.slice A0 l.length c0, .int .i64 n] w fun e w' => e = .returned (.bool true) ∧ Below w.heap.size w w' := by
  obtain ⟨K, hK⟩ := parts_yes l n hs
  exact thermographlaw06_MergeParts.calls K A0 c0 l n true w hC hc (hK K (Nat.le_refl K))
theorem best_calls (A0 : Option Addr) (c0 : Nat) (l : List (List S24)) (w : World) (hC : Kd.C (Kd.slice 24 k24) w A0 l.length l) (hc : l.length ≤ c0) (hs : Short l) :
    Calls Try.prog 7 #[.slice A0 l.length c0] w fun e w' => e = .returned (.bool true) ∧ Below w.heap.size w w' := by
  obtain ⟨K, hK⟩ := best_yes l hs
  exact thermographlaw06_MergeBest.calls K A0 c0 l true w hC hc (hK K (Nat.le_refl K))
end Go.Proofs.Ytfamnbejimbenaa.X
