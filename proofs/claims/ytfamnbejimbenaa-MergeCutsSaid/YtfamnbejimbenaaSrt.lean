/- What slices.SortFunc does by merge.ahead with a row of points of the call's own. -/
import Derived.Test.YtfamnbejimbenaaFlatSort
import Derived.Test.YtfamnbejimbenaaAhead
import Derived.Test.YtfamnbejimbenaaSortLay
namespace Go.Proofs.Ytfamnbejimbenaa.X
open Go.RowKit Go.Shelf Go.Sort Go.Proofs.Ytfamnbejimbenaa.G Go.Proofs.YtfamnbejimbenaaW.PrintWords Go.Proofs.YtfamnbejimbenaaW.PrintLast Go.Proofs.YtfamnbejimbenaaW.PrintMore

theorem ltOfAhead (x y : S24) : ltOf aheadI x y = decide (x.f0 < y.f0 ∨ x.f0 = y.f0 ∧ wins x y = true) := by
  unfold ltOf
  exact ltAhead x y
theorem swoAhead : SWO (ltOf aheadI) where
  irrefl x := by rw [ltOfAhead, wins_irrefl]; simp
  trans x y z h1 h2 := by rw [ltOfAhead] at *; simp only [decide_eq_true_eq, wins_iff] at *; omega
  ntrans x y z h1 h2 := by rw [ltOfAhead] at *; simp only [decide_eq_false_iff_not, wins_iff] at *; omega
theorem sortFunc_calls (g0 cap : Nat) (xs : List S24) (w : World) (hR : Row w g0 cap xs) (hcap : xs.length < 4611686018427387904) :
    Calls Try.prog 27 #[.slice (some ⟨g0, 0, none⟩) xs.length cap, .func (.func 28) #[] #[]] w fun e w' => e = .returned (.tuple #[]) ∧ ∃ ys : List S24, ys.length = xs.length ∧ ys.Perm xs ∧ ys.Pairwise aheadP ∧ Row w' g0 cap ys ∧ w.grownBy w' (some g0) := by
  have eg : ∀ args w, (callFunc 28 args).run Try.prog w = .ok (.enter 28 args) w := enters_of Try.func28 (by kernel_rfl) rfl
  have hcon := AnyQ.slices_SortFunc Try.sortL 3 Try.isAgg24 Try.sizeOf24 encR (fun _ => rfl) (fun x v hv => by simp [encR] at hv; rcases hv with rfl | rfl | rfl <;> rfl) aheadI swoAhead 28 #[] g0 0 cap xs.toArray w eg
    (fun _ _ _ _ x y => ahead_calls x y _) (holds_of_row hR) hR.lt (by simpa using hcap)
  change Calls Try.prog 27 _ _ _ at hcon
  rw [show xs.toArray.size = xs.length by simp] at hcon
  refine hcon.mono ?_
  rintro e w' ⟨rfl, d', n, os, hp, hs, rfl⟩
  have hsz : d'.size = xs.length := by rw [hp.1]; simp
  obtain ⟨r1, r2⟩ := row_sorted hR n d' os hsz
  refine ⟨rfl, d'.toList, by simpa using hsz, ?_, ?_, r1, r2⟩
  · have h := hp.2.2
    have e1 : d'.extract 0 xs.length = d' := by rw [← hsz]; simp
    have e2 : xs.toArray.extract 0 xs.length = xs.toArray := by simp
    rw [e1, e2] at h
    simpa using h
  · rw [List.pairwise_iff_getElem]
    intro i j hi hj hij
    have hi' : i < d'.size := by simpa using hi
    have hj' : j < d'.size := by simpa using hj
    have h := hs i j (Nat.zero_le _) hij (by omega)
    rw [ltOfAhead, getElem!_pos d' j hj', getElem!_pos d' i hi'] at h
    simp only [decide_eq_false_iff_not, wins_iff] at h
    unfold aheadP
    rw [wins_not]
    simp only [Array.getElem_toList]
    omega
theorem sortFunc_none (p : Option Addr) (cap : Nat) (fv : Value) (w : World) : Calls Try.prog 27 #[.slice p 0 cap, fv] w fun e w' => e = .returned (.tuple #[]) ∧ w' = w :=
  AnyF.slices_SortFunc_none { Try.sortL with } p cap fv w
end Go.Proofs.Ytfamnbejimbenaa.X
