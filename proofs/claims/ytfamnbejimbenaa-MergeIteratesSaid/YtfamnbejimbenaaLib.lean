/- What slices.CompactFunc does with a sorted row of points of the call's own: of each time the first one is kept. -/
import Derived.Test.YtfamnbejimbenaaFlat
import Derived.Test.YtfamnbejimbenaaViews
import Derived.WalkSpells
import Derived.Laws.IdiomCopy
namespace Go.Proofs.Ytfamnbejimbenaa.X
open Go.RowKit Go.Sort Go.Proofs.Ytfamnbejimbenaa.G Go.Proofs.YtfamnbejimbenaaW.PrintWords Go.Proofs.YtfamnbejimbenaaW.PrintLast Go.Proofs.YtfamnbejimbenaaW.PrintMore

section
variable {P : Program} {md : Region.Mode} {ops : Array Oper} {Q : Exit → Act → World → Prop}
/-- A call of a function value in a region that draws its order. -/
theorem goesV_ {oi : Oper} {N : Option Tmp} {a : Act} {w : World} {K : Act → World → Prop} {f : FuncId} {fn : Func} {x : Operand} {as_ : Array Operand} {ts : Array TypeId} (hf : P.funcs[f]? = some fn) (hname : (fn.name == "runtime.NumGoroutine") = false) (hb : fn.body.isSome = true) (args : Array Value)
    (hw : Region.wanted oi (yielded ops a.tmps) = true) (hN : oi.dst = N) (hop : oi.op = .call { callee := .value x, args := as_, argTypes := ts }) (hx : a.eval x = .func (.func f) #[] #[]) (hargs : as_.map a.eval = args)
    (h : Calls P f args w fun e w' => ∃ v, e = .returned v ∧ K (a.put N v) w') : if Region.wanted oi (yielded ops a.tmps) = true then Oper.wp P oi a w K Q else K (a.put N undef) w := by
  refine call_ f args hw hN ?_ h
  have he := enters_ hf hname hb args w
  unfold execOp
  simp [hop, hx, resolve, Deferred.ofValue, invoke, hargs, he]
end
def sameT (x y : S24) : Bool := x.f0 == y.f0
theorem sameT_calls (x y : S24) (W : World) : Calls Try.prog 30 #[.agg #[.int .i64 x.f0, .int .u64 x.f1, .int .u64 x.f2], .agg #[.int .i64 y.f0, .int .u64 y.f1, .int .u64 y.f2]] W fun e W' => e = .returned (.bool (sameT x y)) ∧ Below W.heap.size W W' := by
  unfold sameT
  go_enter Try.func30, Try.ntmps30
  go_wp2
  repeat (go_quiet (fail); try go_wp2)
  go_ret
  exact ⟨rfl, by repeat (first | apply below_alloc | apply pw_below_drewN | apply below_drew1 | exact Below.refl _ _)⟩
theorem at_nat {w : World} {A : Option Addr} {xs : List S24} (h : Kd.C k24 w A xs.length xs) (i : Nat) (hi : i < xs.length) : ∃ ad x, A = some ad ∧ xs[i]? = some x ∧ w.cell? (ad.add (i * 3)) = some (.int .i64 x.f0) ∧ w.cell? ⟨(ad.add (i * 3)).block, (ad.add (i * 3)).off + 1, none⟩ = some (.int .u64 x.f1) ∧ w.cell? ⟨(ad.add (i * 3)).block, (ad.add (i * 3)).off + 2, none⟩ = some (.int .u64 x.f2) := by
  obtain ⟨ad, e, c0, c1, c2⟩ := at_T24 h (i : Int) (by omega) (by omega)
  have hr : rd_T24 xs (i : Int) = xs[i] := by simp [rd_T24, hi]
  rw [hr, Int.toNat_natCast] at c0 c1 c2
  exact ⟨ad, xs[i], e, List.getElem?_eq_getElem hi, c0, c1, c2⟩

/-! ### clear -/
theorem setCells_block (g : Nat) (e : TypeId) (fr : Nat × Nat) : ∀ (vs : List Value) (o : Nat) (w : World) (cur : Array Value), w.heap[g]? = some (.cells cur e fr) →
    ∃ cur' : Array Value, (w.setCells g o vs).heap[g]? = some (.cells cur' e fr) ∧ cur'.size = cur.size ∧ (∀ j, j < o → cur'[j]? = cur[j]?) ∧ w.grownBy (w.setCells g o vs) (some g)
  | [], _, w, cur, h => ⟨cur, h, rfl, fun _ _ => rfl, ⟨rfl, rfl, rfl, Nat.le_refl _, fun _ _ _ => rfl⟩⟩
  | v :: vs, o, w, cur, h => by
    have h1 : (w.setCell ⟨g, o, none⟩ v).heap[g]? = some (.cells (cur.setIfInBounds o v) e fr) := by
      rw [setCell_eq]
      simp [mapBlock, Array.getElem?_modify, h, onCells]
    obtain ⟨cur', a, b, c, d⟩ := setCells_block g e fr vs (o + 1) _ _ h1
    refine ⟨cur', a, by simpa using b, fun j hj => ?_, World.grownBy.trans (grownBy_set w g o v) d⟩
    rw [c j (by omega), Array.getElem?_setIfInBounds_ne (by omega)]
theorem clear_tail {w : World} {g cap n m : Nat} {xs : List S24} (h : Row w g cap xs) (hm : m < n) (hn : n ≤ cap) (hl : xs.length ≤ m) (c ty : Nat) :
    ∃ W', (Builtin.clear_ #[29] ty #[.slice (some ⟨g, m * 3, none⟩) (n - m) c]).run Try.prog w = .ok (.tuple #[]) W' ∧ Row W' g cap xs ∧ w.grownBy W' (some g) := by
  obtain ⟨k, hk⟩ : ∃ k, n - m = k + 1 := ⟨n - m - 1, by omega⟩
  obtain ⟨cur, hb, h1, h2, h3, hc⟩ := h
  have hv : (zeroValue 24).run Try.prog w = .ok (.agg #[.int .i64 0, .int .u64 0, .int .u64 0]) w := by kernel_rfl
  have hall : ∀ v ∈ (Builtin.zeroCells #[Value.int .i64 0, Value.int .u64 0, Value.int .u64 0] (k + 1)).toList, v.oneCell' = true := by
    intro v hv
    simp only [Builtin.zeroCells, Array.toList_map, List.mem_map] at hv
    obtain ⟨i, _, rfl⟩ := hv
    have : i % 3 = 0 ∨ i % 3 = 1 ∨ i % 3 = 2 := by omega
    show (#[Value.int .i64 0, Value.int .u64 0, Value.int .u64 0][i % 3]!).oneCell' = true
    rcases this with e | e | e <;> rw [e] <;> rfl
  have hlen : (Builtin.zeroCells #[Value.int .i64 0, Value.int .u64 0, Value.int .u64 0] (k + 1)).toList.length = (k + 1) * 3 := by simp [Builtin.zeroCells]
  have hcell : ∀ j, j < cap * 3 → (w.cell? ⟨g, j, none⟩).isSome = true := fun j hj => by
    rw [cell_of_row w g j cur _ _ hb, Array.getElem?_eq_getElem (by omega)]; rfl
  have hfree : ∀ j, w.frozen? ⟨g, j, none⟩ = false := fun j => by simp [World.frozen?, hb]
  have hst := run_storeCells_cells (P := Try.prog) g (m * 3) (Builtin.zeroCells #[Value.int .i64 0, Value.int .u64 0, Value.int .u64 0] (k + 1)).toList 0 w (fun j hj => hcell _ (by rw [hlen] at hj; omega)) (fun j _ => hfree _) hall
  simp only [Nat.add_zero] at hst
  obtain ⟨cur', a, b, c', d⟩ := setCells_block g 24 (0, 0) (Builtin.zeroCells #[Value.int .i64 0, Value.int .u64 0, Value.int .u64 0] (k + 1)).toList (m * 3) w cur hb
  refine ⟨_, ?_, ⟨cur', a, h1, h2, by omega, fun i x hi => ?_⟩, d⟩
  · rw [hk]
    simp [Builtin.clear_, run_underlying Try.underlying29, hv, hst, Value.cells]
  · have hi' : i < xs.length := (List.getElem?_eq_some_iff.1 hi).1
    rw [c' (i * 3) (by omega), c' (i * 3 + 1) (by omega), c' (i * 3 + 2) (by omega)]
    exact hc i x hi

/-! ### CompactFunc -/
theorem compactFrom_snoc (last : S24) (l : List S24) (p q : S24) (hq : (last :: l).getLast? = some q) : compactFrom last (l ++ [p]) = compactFrom last l ++ (if p.f0 = q.f0 then [] else [p]) := by
  induction l generalizing last with
  | nil =>
    obtain rfl : last = q := by simpa using hq
    simp only [List.nil_append, compactFrom]
  | cons x l ih =>
    have h := ih x (by simpa using hq)
    simp only [List.cons_append, compactFrom, h]
    split
    · rfl
    · rfl
theorem compact_snoc (l : List S24) (p q : S24) (hq : l.getLast? = some q) : compact (l ++ [p]) = compact l ++ (if p.f0 = q.f0 then [] else [p]) := by
  cases l with
  | nil => simp at hq
  | cons x l => simp only [List.cons_append, compact, compactFrom_snoc x l p q hq]
theorem compact_next {xs : List S24} {j : Nat} {p q : S24} (hp : xs[j + 1]? = some p) (hq : xs[j]? = some q) : compact (xs.take (j + 2)) = compact (xs.take (j + 1)) ++ (if p.f0 = q.f0 then [] else [p]) := by
  have e : xs.take (j + 2) = xs.take (j + 1) ++ [p] := by rw [show j + 2 = (j + 1) + 1 from rfl, List.take_add_one, hp]; rfl
  rw [e]
  refine compact_snoc _ p q ?_
  have h : j < xs.length := (List.getElem?_eq_some_iff.1 hq).1
  rw [List.getLast?_eq_getElem?, List.length_take, Nat.min_eq_left (by omega), List.getElem?_take_of_lt (by omega)]
  exact hq
theorem compact_len (l : List S24) : (compact l).length ≤ l.length := by
  have h : ∀ (l : List S24) (x : S24), (compactFrom x l).length ≤ l.length := by
    intro l
    induction l with
    | nil => intro x; exact Nat.le_refl _
    | cons y l ih => intro x; have := ih y; simp only [compactFrom]; split <;> simp <;> omega
  cases l with
  | nil => exact Nat.le_refl _
  | cons x l => have := h l x; simp only [compact, List.length_cons]; omega
/-- The first loop: so far no two neighbours have one time. -/
structure AsIs (xs : List S24) (g cap : Nat) (w wr : World) (k : Nat) : Prop where
  same : compact (xs.take k) = xs.take k
  row : Row wr g cap xs
  grown : w.grownBy wr (some g)
/-- The second loop, at element j + 1: the first k ones hold what is kept of the first j + 1. -/
structure CompAt (xs : List S24) (g cap : Nat) (w wr : World) (k j : Nat) : Prop where
  lt : k ≤ j
  le : j < xs.length
  row : ∃ zs, zs.length = xs.length ∧ zs.take k = compact (xs.take (j + 1)) ∧ zs.drop j = xs.drop j ∧ Row wr g cap zs
  grown : w.grownBy wr (some g)
end Go.Proofs.Ytfamnbejimbenaa.X
