/- What merge.ahead tells of two points. -/
import Derived.Test.YtfamnbejimbenaaViews
import Derived.Sort.Grow
namespace Go.Proofs.Ytfamnbejimbenaa.X
open Go.RowKit Go.Sort Go.Proofs.Ytfamnbejimbenaa.G Go.Proofs.YtfamnbejimbenaaW.PrintWords Go.Proofs.YtfamnbejimbenaaW.PrintLast Go.Proofs.YtfamnbejimbenaaW.PrintMore

/-- How the program sorts: by times, of one time the one that wins first. -/
def aheadI (x y : S24) : Int := if x.f0 = y.f0 then (if x.f2 = y.f2 then (if x.f1 = y.f1 then 0 else if x.f1 > y.f1 then -1 else 1) else if x.f2 > y.f2 then -1 else 1) else if x.f0 < y.f0 then -1 else 1
set_option maxHeartbeats 2000000 in
theorem ahead_calls (x y : S24) (W : World) : Calls Try.prog 28 #[.agg #[.int .i64 x.f0, .int .u64 x.f1, .int .u64 x.f2], .agg #[.int .i64 y.f0, .int .u64 y.f1, .int .u64 y.f2]] W fun e w' => e = .returned (.int .i64 (aheadI x y)) ∧ ∃ q os', w' = grow (W.drewN q) os' := by
  have hc : (aheadI x y = -1 ∧ x.f0 < y.f0) ∨ (aheadI x y = 1 ∧ y.f0 < x.f0) ∨ (aheadI x y = -1 ∧ x.f0 = y.f0 ∧ y.f2 < x.f2) ∨ (aheadI x y = 1 ∧ x.f0 = y.f0 ∧ x.f2 < y.f2) ∨ (aheadI x y = -1 ∧ x.f0 = y.f0 ∧ x.f2 = y.f2 ∧ y.f1 < x.f1) ∨ (aheadI x y = 1 ∧ x.f0 = y.f0 ∧ x.f2 = y.f2 ∧ x.f1 < y.f1) ∨ (aheadI x y = 0 ∧ x.f0 = y.f0 ∧ x.f2 = y.f2 ∧ x.f1 = y.f1) := by
    unfold aheadI; omega
  obtain ⟨x0, x1, x2⟩ := x
  obtain ⟨y0, y1, y2⟩ := y
  dsimp only at hc ⊢
  generalize aheadI ⟨x0, x1, x2⟩ ⟨y0, y1, y2⟩ = r at hc ⊢
  rcases hc with ⟨rfl, h⟩ | ⟨rfl, h⟩ | ⟨rfl, rfl, h⟩ | ⟨rfl, rfl, h⟩ | ⟨rfl, rfl, rfl, h⟩ | ⟨rfl, rfl, rfl, h⟩ | ⟨rfl, rfl, rfl, rfl⟩
  · have p1 : decide (x0 < y0) = true := decide_eq_true h
    have p2 : decide (y0 < x0) = false := decide_eq_false (by omega)
    have p3 : (x0 == y0) = false := beq_eq_false_iff_ne.2 (by omega)
    have p4 : (y0 == x0) = false := beq_eq_false_iff_ne.2 (by omega)
    have p5 : (x0 != y0) = true := by simp [bne, p3]
    have p6 : (y0 != x0) = true := by simp [bne, p4]
    clear h
    go_enter Try.func28, Try.ntmps28
    go_wp2
    repeat (go_quiet (fail); try go_wp2)
    go_ret
    exact ⟨rfl, 0, _, by simp only [alloc_eq_grow, grow_grow]; rfl⟩
  · have p1 : decide (y0 < x0) = true := decide_eq_true h
    have p2 : decide (x0 < y0) = false := decide_eq_false (by omega)
    have p3 : (y0 == x0) = false := beq_eq_false_iff_ne.2 (by omega)
    have p4 : (x0 == y0) = false := beq_eq_false_iff_ne.2 (by omega)
    have p5 : (y0 != x0) = true := by simp [bne, p3]
    have p6 : (x0 != y0) = true := by simp [bne, p4]
    clear h
    go_enter Try.func28, Try.ntmps28
    go_wp2
    repeat (go_quiet (fail); try go_wp2)
    go_ret
    exact ⟨rfl, 0, _, by simp only [alloc_eq_grow, grow_grow]; rfl⟩
  · have p1 : decide (y2 < x2) = true := decide_eq_true h
    have p2 : decide (x2 < y2) = false := decide_eq_false (by omega)
    have p3 : (y2 == x2) = false := beq_eq_false_iff_ne.2 (by omega)
    have p4 : (x2 == y2) = false := beq_eq_false_iff_ne.2 (by omega)
    have p5 : (y2 != x2) = true := by simp [bne, p3]
    have p6 : (x2 != y2) = true := by simp [bne, p4]
    clear h
    go_enter Try.func28, Try.ntmps28
    go_wp2
    repeat (go_quiet (fail); try go_wp2)
    go_ret
    exact ⟨rfl, 0, _, by simp only [alloc_eq_grow, grow_grow]; rfl⟩
  · have p1 : decide (x2 < y2) = true := decide_eq_true h
    have p2 : decide (y2 < x2) = false := decide_eq_false (by omega)
    have p3 : (x2 == y2) = false := beq_eq_false_iff_ne.2 (by omega)
    have p4 : (y2 == x2) = false := beq_eq_false_iff_ne.2 (by omega)
    have p5 : (x2 != y2) = true := by simp [bne, p3]
    have p6 : (y2 != x2) = true := by simp [bne, p4]
    clear h
    go_enter Try.func28, Try.ntmps28
    go_wp2
    repeat (go_quiet (fail); try go_wp2)
    go_ret
    exact ⟨rfl, 0, _, by simp only [alloc_eq_grow, grow_grow]; rfl⟩
  · have p1 : decide (y1 < x1) = true := decide_eq_true h
    have p2 : decide (x1 < y1) = false := decide_eq_false (by omega)
    have p3 : (y1 == x1) = false := beq_eq_false_iff_ne.2 (by omega)
    have p4 : (x1 == y1) = false := beq_eq_false_iff_ne.2 (by omega)
    have p5 : (y1 != x1) = true := by simp [bne, p3]
    have p6 : (x1 != y1) = true := by simp [bne, p4]
    clear h
    go_enter Try.func28, Try.ntmps28
    go_wp2
    repeat (go_quiet (fail); try go_wp2)
    go_ret
    exact ⟨rfl, 0, _, by simp only [alloc_eq_grow, grow_grow]; rfl⟩
  · have p1 : decide (x1 < y1) = true := decide_eq_true h
    have p2 : decide (y1 < x1) = false := decide_eq_false (by omega)
    have p3 : (x1 == y1) = false := beq_eq_false_iff_ne.2 (by omega)
    have p4 : (y1 == x1) = false := beq_eq_false_iff_ne.2 (by omega)
    have p5 : (x1 != y1) = true := by simp [bne, p3]
    have p6 : (y1 != x1) = true := by simp [bne, p4]
    clear h
    go_enter Try.func28, Try.ntmps28
    go_wp2
    repeat (go_quiet (fail); try go_wp2)
    go_ret
    exact ⟨rfl, 0, _, by simp only [alloc_eq_grow, grow_grow]; rfl⟩
  · go_enter Try.func28, Try.ntmps28
    go_wp2
    repeat (go_quiet (fail); try go_wp2)
    go_ret
    exact ⟨rfl, 0, _, by simp only [alloc_eq_grow, grow_grow]; rfl⟩
theorem ltAhead (x y : S24) : decide (aheadI x y < 0) = decide (x.f0 < y.f0 ∨ x.f0 = y.f0 ∧ wins x y = true) := by
  rw [decide_eq_decide, wins_iff]; unfold aheadI; omega
end Go.Proofs.Ytfamnbejimbenaa.X
