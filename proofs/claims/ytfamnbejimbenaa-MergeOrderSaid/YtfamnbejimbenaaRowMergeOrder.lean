/- MergeOrder: of two points that are not the same just one wins, and of three the order goes on: the law returns true at every input, and its arguments read as they did. -/
import Derived.Test.YtfamnbejimbenaaRows
import Derived.Test.YtfamnbejimbenaaPMergeOrderx3
import Derived.WalkKit
import Derived.ProofKit
import Derived.OpenShut
import Derived.ShutString
import Derived.ChangeOld
import Derived.Below
import Derived.SizedLaws
import Derived.Lib.SmallJoins
namespace Go.Proofs.Ytfamnbejimbenaa.mergeOrder
open Go.ChangeShapes Go.WideShapes Go.ChangeAt Go.RowKit Go.Joins
open Go.Proofs.Ytfamnbejimbenaa.PMergeOrder
set_option linter.unusedVariables false

theorem wins (t v s t' v' s' : Int) : merge_Wins.f t v s t' v' s' = some (decide (s > s' ∨ s = s' ∧ v > v')) := by
  unfold merge_Wins.f
  by_cases h1 : s > s'
  · rw [if_pos h1]; simp [h1]
  · rw [if_neg h1]
    by_cases h2 : s = s'
    · rw [if_pos h2]; simp [h2]
    · rw [if_neg h2]; simp only [h1, h2, false_and, or_false, decide_false]
theorem some_bind {α β : Type} (a : α) (f : α → Option β) : (some a).bind f = f a := rfl
theorem pure_ (t0 v0 s0 t1 v1 s1 t2 v2 s2 : Int) : thermographlaw06_MergeOrder.f 1 t0 v0 s0 t1 v1 s1 t2 v2 s2 = some true := by
  have j (b : Bool) (hb : b = false) : thermographlaw06_MergeOrder.j0 1 b t0 v0 s0 t1 v1 s1 t2 v2 s2 = some true := by
    subst hb
    simp only [thermographlaw06_MergeOrder.j0, wins, some_bind]
    by_cases h1 : s0 > s1 ∨ s0 = s1 ∧ v0 > v1 <;> by_cases h2 : s1 > s2 ∨ s1 = s2 ∧ v1 > v2
    · have h3 : s0 > s2 ∨ s0 = s2 ∧ v0 > v2 := by omega
      simp only [h1, h2, h3, decide_true, if_true]; simp
    · simp only [h1, h2, decide_true, decide_false, if_true]; simp
    · simp only [h1, decide_false]; simp
    · simp only [h1, decide_false]; simp
  unfold thermographlaw06_MergeOrder.f
  simp only [wins, some_bind]
  by_cases h1 : s0 > s1 ∨ s0 = s1 ∧ v0 > v1
  · have h2 : ¬ (s1 > s0 ∨ s1 = s0 ∧ v1 > v0) := by omega
    have h3 : (v0 == v1 && s0 == s1) = false := by
      rw [Bool.and_eq_false_iff, beq_eq_false_iff_ne, beq_eq_false_iff_ne]; omega
    simp only [h1, h2, h3, decide_true, decide_false, if_true]
    exact j _ rfl
  · by_cases h2 : s1 > s0 ∨ s1 = s0 ∧ v1 > v0
    · have h3 : (v0 == v1 && s0 == s1) = false := by
        rw [Bool.and_eq_false_iff, beq_eq_false_iff_ne, beq_eq_false_iff_ne]; omega
      simp only [h1, h2, h3, decide_true, decide_false]
      exact j _ rfl
    · have h3 : (v0 == v1 && s0 == s1) = true := by
        rw [Bool.and_eq_true, beq_iff_eq, beq_iff_eq]; omega
      simp only [h1, h2, h3, decide_false]
      exact j _ rfl

theorem own : ownKnob Try.prog.godebug = none := by kernel_rfl
theorem laidOut : laidOutB Try.prog = true := by kernel_rfl
theorem cells24 : Try.prog.cellsOf 24 = 3 := by kernel_rfl
set_option maxRecDepth 100000 in
theorem lifted (os : Os) (started : os.Started) (H : Type) (enc : TypeId × Value → H) :
    ReturnsInHanded {} Try.checked os 3 .any (Rows.mergeOrderSpec.pre6 enc Try.prog Try.f3 Rows.mergeOrderRow.domain false) (Rows.mergeOrderSpec.post enc Try.prog Try.f3 false true false false) := by
  refine returnsInHanded_of_change_sized (C := Try.checked) own started (by kernel_rfl) Try.func3
    (ChangeSpec.witness6 (enc := enc) (C := Try.checked) false ⟨#[], #[.agg #[.int .i64 0, .int .u64 0, .int .u64 0], .agg #[.int .i64 0, .int .u64 0, .int .u64 0], .agg #[.int .i64 0, .int .u64 0, .int .u64 0]], []⟩ 8 (by kernel_rfl) (by kernel_rfl) (by kernel_rfl) (by kernel_rfl)) ?_
  intro W base args ds gs before hval0 hW hcnd hsz0 _
  have hval : ∀ (j : Nat) t v, Try.f3.params[j]? = some t → args[j]? = some v → Value.okWide Try.prog W .any base t v := hval0
  have hW' := hW
  obtain ⟨p, q, hA0, hV, rfl, hfz, hnd⟩ := hW
  have hA : DataW.TrodAll enc Try.prog W 0 (fun _ => true) true Try.f3.params.toList args.toList ds p := hA0
  rw [Try.params3] at hA hval
  obtain ⟨v0, vs0, d0, ds0, p0, q0, hargs, rfl, rfl, h0, r0⟩ := trodAll_cons hA
  obtain ⟨v1, vs1, d1, ds1, p1, q1, rfl, rfl, rfl, h1, r1⟩ := trodAll_cons r0
  obtain ⟨v2, vs2, d2, ds2, p2, q2, rfl, rfl, rfl, h2, r2⟩ := trodAll_cons r1
  obtain ⟨rfl, rfl, rfl⟩ := trodAll_nil r2
  obtain rfl : args = #[v0, v1, v2] := by cases args; simp_all
  obtain ⟨rfl, rfl⟩ := trodVars_none hV
  have k0 := h0
  have lt0 : ∀ x ∈ p0, x.block < W.heap.size := by obtain ⟨m, hm⟩ := k0; exact DataW.trod_lt m _ _ _ hm
  have k1 := h1
  have lt1 : ∀ x ∈ p1, x.block < W.heap.size := by obtain ⟨m, hm⟩ := k1; exact DataW.trod_lt m _ _ _ hm
  have k2 := h2
  have lt2 : ∀ x ∈ p2, x.block < W.heap.size := by obtain ⟨m, hm⟩ := k2; exact DataW.trod_lt m _ _ _ hm
  have point : ∀ (j : Nat) (v : Value) (d : DataW H) (pp : List MemPlace), (#[24, 24, 24] : Array Nat)[j]? = some 24 → (#[v0, v1, v2] : Array Value)[j]? = some v → DataW.Trod enc Try.prog W 0 (fun _ => true) true 24 v d pp →
      ∃ a b c : Int, v = .agg #[.int .i64 a, .int .u64 b, .int .u64 c] := by
    intro j v d pp hj hv h
    obtain ⟨c0, c1, c2, y0, y1, y2, m, rfl, _, _, g0, g1, g2⟩ := open_agg3 Try.underlying24 (by kernel_rfl) cells24 (hval j 24 v hj hv) h
    obtain ⟨a, e0, _, _⟩ := DataW.trod_int Try.underlying3 g0
    obtain ⟨b, e1, _, _⟩ := DataW.trod_int Try.underlying22 g1
    obtain ⟨c, e2, _, _⟩ := DataW.trod_int Try.underlying22 g2
    simp at e0 e1 e2
    subst e0 e1 e2
    exact ⟨a, b, c, rfl⟩
  obtain ⟨t0, u0, s0, rfl⟩ := point 0 _ _ _ rfl rfl h0
  obtain ⟨t1, u1, s1, rfl⟩ := point 1 _ _ _ rfl rfl h1
  obtain ⟨t2, u2, s2, rfl⟩ := point 2 _ _ _ rfl rfl h2
  clear hA0 hval0 hsz0
  refine (thermographlaw06_MergeOrder.calls 1 t0 u0 s0 t1 u1 s1 t2 u2 s2 true W (pure_ t0 u0 s0 t1 u1 s1 t2 u2 s2)).mono fun e W' ⟨he, bel⟩ => ?_
  subst he
  exact ⟨_, rfl, _, _, _, [], _, [], hW', trodAll_mk1 (shut_bool Try.underlying4 _), (trodAll_cons_mk (Below.trod laidOut (by kernel_rfl) (of_decide_eq_true (by kernel_rfl)) k0 bel lt0) (trodAll_cons_mk (Below.trod laidOut (by kernel_rfl) (of_decide_eq_true (by kernel_rfl)) k1 bel lt1) (trodAll_cons_mk (Below.trod laidOut (by kernel_rfl) (of_decide_eq_true (by kernel_rfl)) k2 bel lt2) trodAll_mk0))), rfl, bel.frame _, fun h => by cases h⟩
theorem over : Rows.mergeOrderRow.holds Try.pinned (OpenSpec.ofChange Rows.mergeOrderSpec) :=
  OpenClaim.holds_of_wide 3 Try.f3 rfl rfl rfl rfl rfl rfl rfl ⟨rfl, rfl, rfl, rfl, rfl⟩ rfl rfl rfl rfl rfl (by kernel_rfl) Try.func3 (by kernel_rfl)
    (of_decide_eq_true (by kernel_rfl)) (by unfold Func.isWrapper; first | (rw [if_pos (by decide +kernel)]; kernel_rfl) | (rw [if_neg (by decide +kernel)]; exact ⟨rfl, rfl⟩))
    (fun os started H enc _ => lifted os started H enc)
theorem proved : Rows.MergeOrderSaid := over
end Go.Proofs.Ytfamnbejimbenaa.mergeOrder
namespace Go.Proofs.Ytfamnbejimbenaa
/-- The row, under a short name, for the claim. -/
theorem mergeOrder_holds : Rows.MergeOrderSaid := mergeOrder.proved
#print axioms mergeOrder_holds
end Go.Proofs.Ytfamnbejimbenaa
