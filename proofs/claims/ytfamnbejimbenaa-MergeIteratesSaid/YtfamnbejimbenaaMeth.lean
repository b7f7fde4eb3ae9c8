/- The methods of merge.heads, walked. -/
import Derived.Test.YtfamnbejimbenaaFlat
import Derived.Test.YtfamnbejimbenaaAhead
import Derived.BigRegion
set_option linter.unusedVariables false
set_option linter.unusedSimpArgs false
namespace Go.Proofs.Ytfamnbejimbenaa.X
open Go.RowKit Go.Sort Go.Proofs.Ytfamnbejimbenaa.G Go.Proofs.YtfamnbejimbenaaW.PrintWords Go.Proofs.YtfamnbejimbenaaW.PrintLast Go.Proofs.YtfamnbejimbenaaW.PrintMore
theorem m_len0 (a : Addr) (w : World) : (method 204 49 (.pointer (some a)) "Len").run Try.prog w = (Sem.load .plain a (fun v => .pure (70, v))).run Try.prog w := by kernel_rfl
theorem m_less0 (a : Addr) (w : World) : (method 204 49 (.pointer (some a)) "Less").run Try.prog w = (Sem.load .plain a (fun v => .pure (71, v))).run Try.prog w := by kernel_rfl
theorem m_swap0 (a : Addr) (w : World) : (method 204 49 (.pointer (some a)) "Swap").run Try.prog w = (Sem.load .plain a (fun v => .pure (72, v))).run Try.prog w := by kernel_rfl
theorem m_push (a : Addr) (w : World) : (method 204 49 (.pointer (some a)) "Push").run Try.prog w = .ok (74, .pointer (some a)) w := by kernel_rfl
theorem m_pop (a : Addr) (w : World) : (method 204 49 (.pointer (some a)) "Pop").run Try.prog w = .ok (73, .pointer (some a)) w := by kernel_rfl
theorem m_len {a : Addr} {w : World} {v : Value} (h : w.cell? a = some v) : (method 204 49 (.pointer (some a)) "Len").run Try.prog w = .ok (70, v) w := by
  rw [m_len0]; simp only [Sem.run, h]
theorem m_less {a : Addr} {w : World} {v : Value} (h : w.cell? a = some v) : (method 204 49 (.pointer (some a)) "Less").run Try.prog w = .ok (71, v) w := by
  rw [m_less0]; simp only [Sem.run, h]
theorem m_swap {a : Addr} {w : World} {v : Value} (h : w.cell? a = some v) : (method 204 49 (.pointer (some a)) "Swap").run Try.prog w = .ok (72, v) w := by
  rw [m_swap0]; simp only [Sem.run, h]

theorem below_grow (w : World) (q : Nat) (os : Array Obj) : Below w.heap.size w (grow (w.drewN q) os) :=
  ⟨rfl, rfl, rfl, by simp, fun k hk => (heap_grow_old _ _ (by simpa using hk)).trans rfl⟩
theorem len70_calls (A : Option Addr) (n c : Nat) (w : World) : Calls Try.prog 70 #[.slice A n c] w fun e w' => e = .returned (.int .i64 n) ∧ w' = w := by
  go_enter Try.func70, Try.ntmps70
  go_wp2
  go_ret
  exact ⟨rfl, rfl⟩
set_option maxHeartbeats 1000000 in
theorem less71_calls (h n c i j : Nat) (bi oi ni ci bj oj nj cj : Nat) (x y : S24) (w : World) (hi : i < n) (hj : j < n) (hni : 0 < ni) (hnj : 0 < nj)
    (e1 : w.cell? ⟨h, i, none⟩ = some (.slice (some ⟨bi, oi, none⟩) ni ci)) (e2 : w.cell? ⟨h, j, none⟩ = some (.slice (some ⟨bj, oj, none⟩) nj cj))
    (x0 : w.cell? ⟨bi, oi, none⟩ = some (.int .i64 x.f0)) (x1 : w.cell? ⟨bi, oi + 1, none⟩ = some (.int .u64 x.f1)) (x2 : w.cell? ⟨bi, oi + 2, none⟩ = some (.int .u64 x.f2))
    (y0 : w.cell? ⟨bj, oj, none⟩ = some (.int .i64 y.f0)) (y1 : w.cell? ⟨bj, oj + 1, none⟩ = some (.int .u64 y.f1)) (y2 : w.cell? ⟨bj, oj + 2, none⟩ = some (.int .u64 y.f2)) :
    Calls Try.prog 71 #[.slice (some ⟨h, 0, none⟩) n c, .int .i64 i, .int .i64 j] w fun e w' => e = .returned (.bool (decide (aheadI x y < 0))) ∧ Below w.heap.size w w' := by
  have hi0 : (0 : Int) ≤ (i : Int) := Int.natCast_nonneg _
  have hj0 : (0 : Int) ≤ (j : Int) := Int.natCast_nonneg _
  have hi1 : (i : Int) < (n : Int) := by omega
  have hj1 : (j : Int) < (n : Int) := by omega
  have hn1 : (0 : Int) < (ni : Int) := by omega
  have hn2 : (0 : Int) < (nj : Int) := by omega
  go_enter Try.func71, Try.ntmps71
  go_wp2_with fail
  go_region_with (go_at_call 28; refine (ahead_calls x y _).mono ?_; rintro e w6 ⟨rfl, q, os', rfl⟩)
  all_goals
    go_simp
    go_wp2
    go_ret
    exact ⟨rfl, below_grow _ _ _⟩
set_option maxHeartbeats 1000000 in
theorem swap72_calls (h n c i j : Nat) (P Q : Option Addr) (np cp nq cq : Nat) (w : World) (hi : i < n) (hj : j < n)
    (e1 : w.cell? ⟨h, i, none⟩ = some (.slice P np cp)) (e2 : w.cell? ⟨h, j, none⟩ = some (.slice Q nq cq)) (f : ∀ k, w.frozen? ⟨h, k, none⟩ = false) :
    Calls Try.prog 72 #[.slice (some ⟨h, 0, none⟩) n c, .int .i64 i, .int .i64 j] w fun e w' => e = .returned (.tuple #[]) ∧ w' = ((w.setCell ⟨h, i, none⟩ (.slice Q nq cq)).setCell ⟨h, j, none⟩ (.slice P np cp)).drew := by
  have hi0 : (0 : Int) ≤ (i : Int) := Int.natCast_nonneg _
  have hj0 : (0 : Int) ≤ (j : Int) := Int.natCast_nonneg _
  have hi1 : (i : Int) < (n : Int) := by omega
  have hj1 : (j : Int) < (n : Int) := by omega
  have f1 := f i
  have f2 := f j
  have s1 : (w.setCell ⟨h, i, none⟩ (.slice Q nq cq)).cell? ⟨h, j, none⟩ = some (.slice Q nq cq) := by
    by_cases hij : i = j
    · subst hij
      exact World.cell?_setCell_same _ _ _ e1
    · rw [World.cell?_setCell_other _ _ _ _ (by simp [hij])]; exact e2
  have s2 : (w.setCell ⟨h, j, none⟩ (.slice P np cp)).cell? ⟨h, i, none⟩ = some (.slice P np cp) := by
    by_cases hij : i = j
    · subst hij
      exact World.cell?_setCell_same _ _ _ e1
    · rw [World.cell?_setCell_other _ _ _ _ (by simp [Ne.symm hij])]; exact e1
  go_enter Try.func72, Try.ntmps72
  go_wp2_with fail
  go_region
  all_goals
    go_simp
    go_wp2
    go_end0
    exact ⟨rfl, rfl⟩
set_option maxHeartbeats 1000000 in
theorem pop73_calls (g h n c : Nat) (P : Option Addr) (np cp : Nat) (w : World) (hn : n < 140737488355328)
    (e0 : w.cell? ⟨g, 0, none⟩ = some (.slice (some ⟨h, 0, none⟩) (n + 1) c)) (hc : n + 1 ≤ c) (f0 : w.frozen? ⟨g, 0, none⟩ = false)
    (e1 : w.cell? ⟨h, n, none⟩ = some (.slice P np cp)) :
    Calls Try.prog 73 #[.pointer (some ⟨g, 0, none⟩)] w fun e w' => e = .returned (.iface 29 (.slice P np cp)) ∧ w' = w.setCell ⟨g, 0, none⟩ (.slice (some ⟨h, 0, none⟩) n c) := by
  have h1 : wrap64 (((n + 1 : Nat) : Int) - 1) = (n : Int) := by unfold wrap64; omega
  have h2 : (0 : Int) ≤ (n : Int) := Int.natCast_nonneg _
  have h3 : (n : Int) < ((n + 1 : Nat) : Int) := by omega
  have h4 : (n : Int) ≤ (c : Int) := by omega
  go_enter Try.func73, Try.ntmps73
  go_wp2
  go_ret
  exact ⟨rfl, rfl⟩
end Go.Proofs.Ytfamnbejimbenaa.X
