/- merge.Merge of any rows of points is the view of them all: the contract, in the print's form. -/
import Derived.Test.YtfamnbejimbenaaConc
import Derived.Test.YtfamnbejimbenaaComp
import Derived.Test.YtfamnbejimbenaaSrt
namespace Go.Proofs.Ytfamnbejimbenaa.X
open Go.RowKit Go.Sort Go.Proofs.Ytfamnbejimbenaa.G Go.Proofs.YtfamnbejimbenaaW.PrintWords Go.Proofs.YtfamnbejimbenaaW.PrintLast Go.Proofs.YtfamnbejimbenaaW.PrintMore

theorem compactFunc_nil (w : World) : Calls Try.prog 29 #[.slice none 0 0, .func (.func 30) #[] #[]] w fun e w' => e = .returned (.slice none 0 0) ∧ w' = w := by
  go_enter Try.func29, Try.ntmps29
  go_wp2
  go_ret
  exact ⟨rfl, rfl⟩
def merge_Merge.f (l0 : List (List S24)) : Option (List S24) := if l0.length ≤ 1000000 ∧ l0.flatten.length ≤ 1000000 then some (view l0.flatten) else none
set_option maxHeartbeats 1000000 in
theorem merge_Merge.calls (A0 : Option Addr) (c0 : Nat) (l0 : List (List S24)) (r : List S24) (w : World) (hr0 : Kd.C (Kd.slice 24 k24) w A0 l0.length l0) (_hc0 : l0.length ≤ c0) (h : merge_Merge.f l0 = some r) :
    Calls Try.prog 17 #[.slice A0 l0.length c0] w fun e w' => ∃ v0_ : Value, e = .returned v0_ ∧ Kd.R k24 24 w' w.heap.size (fun _ => True) v0_ r ∧ Below w.heap.size w w' := by
  unfold merge_Merge.f at h
  split at h
  rotate_left
  · cases h
  rename_i hn
  obtain ⟨hn1, hn2⟩ := hn
  obtain rfl := Option.some.inj h
  have HC := Aside0.mk (concat_calls A0 c0 l0 w hn2 hn1 hr0)
  have HN2 := Aside0.mk hn2
  clear hr0 h hn1 hn2
  generalize l0.flatten = xs at HC HN2 ⊢
  go_enter Try.func17, Try.ntmps17
  go_wp2_with fail
  refine HC.out.mono ?_
  rintro e w1 ⟨v, rfl, hv, hb1⟩
  rcases row_of_R hv with ⟨rfl, hx⟩ | ⟨gA, cap, rfl, hgA, hrow⟩
  · have HX := Aside0.mk hx
    clear hx hv
    go_wp2_with fail
    refine (sortFunc_none _ _ _ _).mono ?_
    rintro e w3 ⟨rfl, rfl⟩
    go_wp2_with fail
    refine (compactFunc_nil _).mono ?_
    rintro e w4 ⟨rfl, rfl⟩
    go_wp2
    go_ret
    refine ⟨_, rfl, ?_, hb1⟩
    rw [HX.out]
    exact Kd.R_nil _ _ _ _ _
  · have HROW := Aside0.mk hrow
    clear hrow hv
    go_wp2_with fail
    refine (sortFunc_calls gA cap xs _ HROW.out (by have := HN2.out; omega)).mono ?_
    rintro e w3 ⟨rfl, ys, hlen, hperm, hsort, hr3, hg3⟩
    have HR3 := Aside0.mk hr3
    have HP := Aside0.mk (compact_sorted hperm hsort)
    have HB3 := Aside0.mk (show Below w.heap.size w w3 from hb1.grown hg3 hb1.size (fun k hk => by simp only [Option.some.injEq] at hk; omega))
    rw [← hlen]
    clear hlen hperm hsort hr3 hg3
    go_wp2_with fail
    refine (compactFunc_calls gA cap ys _ HR3.out).mono ?_
    rintro e w4 ⟨rfl, hr4, hg4⟩
    have HR4 := Aside0.mk hr4
    have HB4 := Aside0.mk (show Below w.heap.size w w4 from HB3.out.grown hg4 HB3.out.size (fun k hk => by simp only [Option.some.injEq] at hk; omega))
    clear hr4 hg4
    go_wp2
    go_ret
    refine ⟨_, rfl, ?_, HB4.out⟩
    rw [← HP.out]
    exact R_of_row HR4.out hgA trivial
end Go.Proofs.Ytfamnbejimbenaa.X
