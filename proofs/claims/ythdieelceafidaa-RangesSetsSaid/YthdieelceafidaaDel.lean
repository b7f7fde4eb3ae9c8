/- What clear and slices.DeleteFunc do with a row of ranges of the call's own. -/
import Derived.Test.YthdieelceafidaaLib
import Derived.Laws.IdiomCopy
namespace Go.Proofs.Ythdieelceafidaa.X
open Go.RowKit Go.Shelf Go.Sort Go.Proofs.Ythdieelceafidaa.G Go.Proofs.YthdieelceafidaaW.PrintWords Go.Proofs.YthdieelceafidaaW.PrintLast Go.Proofs.YthdieelceafidaaW.PrintMore

theorem setCells_block (g : Nat) (e : TypeId) (fr : Nat × Nat) : ∀ (vs : List Value) (o : Nat) (w : World) (cur : Array Value), w.heap[g]? = some (.cells cur e fr) →
    ∃ cur' : Array Value, (w.setCells g o vs).heap[g]? = some (.cells cur' e fr) ∧ cur'.size = cur.size ∧ (∀ j, j < o → cur'[j]? = cur[j]?) ∧ w.grownBy (w.setCells g o vs) (some g)
  | [], _, w, cur, h => ⟨cur, h, rfl, fun _ _ => rfl, ⟨rfl, rfl, rfl, Nat.le_refl _, fun _ _ _ => rfl⟩⟩
  | v :: vs, o, w, cur, h => by
    have h1 : (w.setCell ⟨g, o, none⟩ v).heap[g]? = some (.cells (cur.setIfInBounds o v) e fr) := by
      rw [setCell_eq]
      simp [mapBlock, Array.getElem?_modify, h, onCells]
    obtain ⟨cur', a, b, c, d⟩ := setCells_block g e fr vs (o + 1) _ _ h1
    refine ⟨cur', a, by simpa using b, fun j hj => ?_, World.grownBy.trans (grownBy_set w g o v) d⟩
    rw [c j (by omega), Array.getElem?_setIfInBounds_ne (by omega)]
theorem clear_tail {w : World} {g cap n m : Nat} {xs : List S24} (h : Row w g cap xs) (hm : m < n) (hn : n ≤ cap) (hl : xs.length ≤ m) (c ty : Nat) :
    ∃ W', (Builtin.clear_ #[22] ty #[.slice (some ⟨g, m * 2, none⟩) (n - m) c]).run Try.prog w = .ok (.tuple #[]) W' ∧ Row W' g cap xs ∧ w.grownBy W' (some g) := by
  obtain ⟨k, hk⟩ : ∃ k, n - m = k + 1 := ⟨n - m - 1, by omega⟩
  obtain ⟨cur, hb, h1, h2, h3, hc⟩ := h
  have hv : (zeroValue 24).run Try.prog w = .ok (.agg #[.int .i64 0, .int .i64 0]) w := by kernel_rfl
  have hall : ∀ v ∈ (Builtin.zeroCells #[Value.int .i64 0, Value.int .i64 0] (k + 1)).toList, v.oneCell' = true := by
    intro v hv
    simp only [Builtin.zeroCells, Array.toList_map, List.mem_map] at hv
    obtain ⟨i, _, rfl⟩ := hv
    have : i % 2 = 0 ∨ i % 2 = 1 := by omega
    rcases this with e | e
    · show (#[Value.int .i64 0, Value.int .i64 0][i % 2]!).oneCell' = true
      rw [e]; rfl
    · show (#[Value.int .i64 0, Value.int .i64 0][i % 2]!).oneCell' = true
      rw [e]; rfl
  have hlen : (Builtin.zeroCells #[Value.int .i64 0, Value.int .i64 0] (k + 1)).toList.length = (k + 1) * 2 := by simp [Builtin.zeroCells]
  have hcell : ∀ j, j < cap * 2 → (w.cell? ⟨g, j, none⟩).isSome = true := fun j hj => by
    rw [cell_of_row w g j cur _ _ hb, Array.getElem?_eq_getElem (by omega)]; rfl
  have hfree : ∀ j, w.frozen? ⟨g, j, none⟩ = false := fun j => by simp [World.frozen?, hb]
  have hst := run_storeCells_cells (P := Try.prog) g (m * 2) (Builtin.zeroCells #[Value.int .i64 0, Value.int .i64 0] (k + 1)).toList 0 w (fun j hj => hcell _ (by rw [hlen] at hj; omega)) (fun j _ => hfree _) hall
  simp only [Nat.add_zero] at hst
  obtain ⟨cur', a, b, c', d⟩ := setCells_block g 24 (0, 0) (Builtin.zeroCells #[Value.int .i64 0, Value.int .i64 0] (k + 1)).toList (m * 2) w cur hb
  refine ⟨_, ?_, ⟨cur', a, h1, h2, by omega, fun i x hi => ?_⟩, d⟩
  · rw [hk]
    simp [Builtin.clear_, run_underlying Try.underlying22, hv, hst, Value.cells]
  · have hi' : i < xs.length := (List.getElem?_eq_some_iff.1 hi).1
    rw [c' (i * 2) (by omega), c' (i * 2 + 1) (by omega)]
    exact hc i x hi
theorem idx_found {p : S24 → Bool} : ∀ {xs : List S24}, (idx p xs = -1 → xs.filter (fun x => !p x) = xs) ∧ (idx p xs ≠ -1 → ∃ i : Nat, idx p xs = i ∧ i < xs.length ∧ (xs.take (i + 1)).filter (fun x => !p x) = xs.take i)
  | [] => ⟨fun _ => rfl, fun h => absurd rfl h⟩
  | x :: xs => by
    have ih := idx_found (p := p) (xs := xs)
    have hge : ∀ l, -1 ≤ idx p l := by
      intro l
      induction l with
      | nil => simp [idx]
      | cons y l ih => simp only [idx]; split <;> (try split) <;> omega
    have := hge xs
    by_cases hp : p x = true
    · refine ⟨fun h => by simp [idx, hp] at h, fun _ => ⟨0, by simp [idx, hp], by simp, by simp [hp]⟩⟩
    · have hp' : p x = false := by simpa using hp
      constructor
      · intro h
        have h1 : idx p xs = -1 := by
          by_cases h2 : idx p xs = -1
          · exact h2
          · simp [idx, hp', h2] at h; omega
        simp [hp', ih.1 h1]
      · intro h
        have h1 : idx p xs ≠ -1 := fun h2 => h (by simp [idx, hp', h2])
        obtain ⟨i, e, hi, hf⟩ := ih.2 h1
        refine ⟨i + 1, by simp [idx, hp', e], by simp; omega, ?_⟩
        rw [List.take_succ_cons, List.filter_cons, hp', hf]
        simp
theorem new_cells {wr w1 : World} {a b : Value} {e : TypeId} (hb : Below (wr.alloc (.cells #[a, b] e)).heap.size (wr.alloc (.cells #[a, b] e)) w1) : w1.cell? ⟨wr.heap.size, 0, none⟩ = some a ∧ w1.cell? ⟨wr.heap.size, 1, none⟩ = some b := by
  have h := heap_alloc_new wr (.cells #[a, b] e)
  have h1 : w1.heap[wr.heap.size]? = _ := (hb.block wr.heap.size (by simp)).trans h
  exact ⟨cell_of_row w1 _ 0 _ _ _ h1, cell_of_row w1 _ 1 _ _ _ h1⟩
/-- What the loop of DeleteFunc keeps true at (i, j). -/
structure DelAt (p : S24 → Bool) (xs : List S24) (g cap : Nat) (w wr : World) (i j : Nat) : Prop where mk ::
  lt : i < j
  le : j ≤ xs.length
  row : ∃ zs, zs.length = xs.length ∧ zs.take i = (xs.take j).filter (fun x => !p x) ∧ zs.drop j = xs.drop j ∧ Row wr g cap zs
  grown : w.grownBy wr (some g)
theorem del_skip {p : S24 → Bool} {xs zs : List S24} {g cap i j : Nat} {x : S24} {w wr wa w2 : World} (D : DelAt p xs g cap w wr i j)
    (Z : zs.length = xs.length ∧ zs.take i = (xs.take j).filter (fun x => !p x) ∧ zs.drop j = xs.drop j ∧ zs[j]? = some x ∧ ∃ y, zs[i]? = some y) (hp : p x = true) (hr : Row wr g cap zs) (ha : Below wr.heap.size wr wa) (hb : Below wa.heap.size wa w2) : DelAt p xs g cap w w2 i (j + 1) := by
  obtain ⟨z1, z2, z3, z4, _⟩ := Z
  have hj : j < xs.length := by have := (List.getElem?_eq_some_iff.1 z4).1; omega
  have hb' := below_step ha hb
  have hx : xs.drop j = x :: xs.drop (j + 1) := by
    rw [← z3, List.drop_eq_getElem_cons (by omega), (List.getElem?_eq_some_iff.1 z4).2]
    have := congrArg List.tail z3
    simpa using this
  have ht : xs.take (j + 1) = xs.take j ++ [x] := by
    have h0 : xs[j]? = some x := by
      have := congrArg (fun l => l[0]?) hx
      simpa [List.getElem?_drop] using this
    rw [List.take_add_one, h0]; rfl
  refine ⟨by have := D.lt; omega, by omega, ⟨zs, z1, ?_, ?_, hr.below hb'⟩, World.grownBy.trans D.grown (grown_of_below hb' _)⟩
  · rw [z2, ht, List.filter_append]; simp [hp]
  · have := congrArg List.tail z3
    simpa using this
theorem del_keep {p : S24 → Bool} {xs zs : List S24} {g cap i j : Nat} {x : S24} {w wr w2 : World} (D : DelAt p xs g cap w wr i j)
    (Z : zs.length = xs.length ∧ zs.take i = (xs.take j).filter (fun x => !p x) ∧ zs.drop j = xs.drop j ∧ zs[j]? = some x ∧ ∃ y, zs[i]? = some y) (hp : p x = false) (hr : Row wr g cap zs) (hb : Below wr.heap.size wr w2) :
    DelAt p xs g cap w ((w2.setCell ⟨g, i * 2, none⟩ (.int .i64 x.f0)).setCell ⟨g, i * 2 + 1, none⟩ (.int .i64 x.f1)) (i + 1) (j + 1) := by
  obtain ⟨z1, z2, z3, z4, _⟩ := Z
  have hj : j < xs.length := by have := (List.getElem?_eq_some_iff.1 z4).1; omega
  have hij := D.lt
  have hx : xs.drop j = x :: xs.drop (j + 1) := by
    rw [← z3, List.drop_eq_getElem_cons (by omega), (List.getElem?_eq_some_iff.1 z4).2]
    have := congrArg List.tail z3
    simpa using this
  have ht : xs.take (j + 1) = xs.take j ++ [x] := by
    have h0 : xs[j]? = some x := by
      have := congrArg (fun l => l[0]?) hx
      simpa [List.getElem?_drop] using this
    rw [List.take_add_one, h0]; rfl
  refine ⟨by omega, by omega, ⟨zs.set i x, by simpa using z1, ?_, ?_, (hr.below hb).set i x⟩, World.grownBy.trans D.grown (World.grownBy.trans (grown_of_below hb _) (World.grownBy.trans (grownBy_set _ _ _ _) (grownBy_set _ _ _ _)))⟩
  · rw [ht, List.filter_append, ← z2]
    have e : (zs.set i x)[i]? = some x := by rw [List.getElem?_set_self (by omega)]
    rw [List.take_add_one, e, List.take_set_of_le (by omega)]
    simp [hp]
  · rw [List.drop_set_of_lt (by omega)]
    have := congrArg List.tail z3
    simpa using this
theorem del_end {p : S24 → Bool} {xs : List S24} {g cap i j : Nat} {w wr : World} (D : DelAt p xs g cap w wr i j) (hj : xs.length ≤ j) (c : Nat) :
    ∃ W', (Builtin.clear_ #[22] 0 #[.slice (some ⟨g, i * 2, none⟩) (xs.length - i) (c - i)]).run Try.prog wr = .ok (.tuple #[]) W' ∧ (Row W' g cap (xs.filter (fun x => !p x)) ∧ i = (xs.filter (fun x => !p x)).length) ∧ w.grownBy W' (some g) := by
  obtain ⟨zs, z1, z2, z3, hr⟩ := D.row
  have hle := D.le
  have hij := D.lt
  have hcap := hr.le
  obtain rfl : j = xs.length := by omega
  rw [List.take_length] at z2
  obtain ⟨W', h1, h2, h3⟩ := clear_tail (hr.take i) (m := i) (n := xs.length) (by omega) (by omega) (by rw [List.length_take]; omega) (c - i) 0
  refine ⟨W', h1, ⟨by rw [← z2]; exact h2, by rw [← z2, List.length_take]; omega⟩, World.grownBy.trans D.grown h3⟩
set_option maxHeartbeats 1000000 in
theorem deleteFunc_calls (g0 cap : Nat) (xs : List S24) (g : Nat) (cb : Array Value) (p : S24 → Bool) (w : World) (eg : ∀ args w, (callFunc g args).run Try.prog w = .ok (.enter g args) w) (hp : Pays g cb p (fun _ => True)) (hR : Row w g0 cap xs) :
    Calls Try.prog 22 #[.slice (some ⟨g0, 0, none⟩) xs.length cap, .func (.func g) #[] cb] w fun e w' => e = .returned (.slice (some ⟨g0, 0, none⟩) (xs.filter (fun x => !p x)).length cap) ∧ Row w' g0 cap (xs.filter (fun x => !p x)) ∧ w.grownBy w' (some g0) := by
  have HP := Aside0.mk hp
  have HR := Aside0.mk hR
  have HI := Aside0.mk (idx_found (p := p) (xs := xs))
  have HC := Aside0.mk (indexFunc_calls (some ⟨g0, 0, none⟩) cap xs g cb p w eg (fun _ => True) (fun _ _ => trivial) hp (C_of_row hR))
  have hl := hR.le
  clear hp hR
  by_cases h1 : idx p xs = -1
  · have HE := Aside0.mk (HI.out.1 h1)
    rw [h1] at HC
    rw [HE.out]
    clear h1
    go_enter Try.func22, Try.ntmps22
    go_wp2_with fail
    refine HC.out.mono ?_
    rintro e w1 ⟨rfl, hb1⟩
    go_wp2
    go_ret
    exact ⟨rfl, HR.out.below hb1, grown_of_below hb1 _⟩
  · obtain ⟨i, e, hi, hf⟩ := HI.out.2 h1
    rw [e] at HC
    have HF := Aside0.mk hf
    have hm1 : ((i : Int) == -1) = false := by rw [beq_eq_false_iff_ne]; omega
    clear h1 e hf
    go_enter Try.func22, Try.ntmps22
    go_wp2_with fail
    refine HC.out.mono ?_
    rintro e w1 ⟨rfl, hb1⟩
    have D := Aside0.mk (show DelAt p xs g0 cap w w1 i (i + 1) from ⟨by omega, by omega, ⟨xs, rfl, HF.out.symm, rfl, HR.out.below hb1⟩, grown_of_below hb1 _⟩)
    go_wp2
    go_loopw [5, 6] (fun v5 v6 wr => ∃ i j : Nat, v5 = .int .i64 i ∧ v6 = .int .i64 j ∧ i < j ∧ j ≤ xs.length ∧ Aside0 (DelAt p xs g0 cap w wr i j)) (fun _ v6 _ => xs.length - (intOf v6).toNat)
    case atStart => exact ⟨i, i + 1, rfl, by go_num, by omega, by omega, D⟩
    case round =>
      obtain ⟨i, j, rfl, rfl, hij, hj, HD⟩ := hrel
      by_cases hlt : j < xs.length
      · have t1 : decide ((j : Int) < (xs.length : Int)) = true := decide_eq_true (by omega)
        have t2 : decide (j < xs.length) = true := decide_eq_true hlt
        obtain ⟨zs, z1, z2, z3, hrow⟩ := HD.out.row
        have hz : zs[j]? = some xs[j] := by
          have := congrArg (fun l => l[0]?) z3
          simpa [List.getElem?_drop, hlt] using this
        obtain ⟨c0, c1⟩ := hrow.cell hz
        have hzi : zs[i]? = some (zs[i]'(by omega)) := List.getElem?_eq_getElem (by omega)
        have HROW := Aside0.mk hrow
        have HZ := Aside0.mk (show zs.length = xs.length ∧ zs.take i = (xs.take j).filter (fun x => !p x) ∧ zs.drop j = xs.drop j ∧ zs[j]? = some xs[j] ∧ ∃ y, zs[i]? = some y from ⟨z1, z2, z3, hz, _, hzi⟩)
        have HQ := Aside0.mk (fun W => HP.out xs[j] W trivial)
        generalize xs[j] = x at HZ HQ c0 c1
        clear hz hzi hrow z1 z2 z3
        by_cases hpx : p x = true
        · rw [hpx] at HQ
          have HPX := Aside0.mk hpx
          clear hpx
          go_wp2_with fail
          refine (HQ.out _).mono ?_
          rintro e w2 ⟨rfl, hb2⟩
          go_wp2
          go_roundw
          case rel => exact ⟨i, j + 1, rfl, by go_num, by omega, by omega, ⟨del_skip HD.out HZ.out HPX.out HROW.out (below_alloc (Below.refl _ _) _) hb2⟩⟩
          case measure => simp [intOf]; omega
        · replace hpx := Bool.eq_false_iff.mpr hpx
          rw [hpx] at HQ
          have HPX := Aside0.mk hpx
          clear hpx
          go_wp2_with fail
          refine (HQ.out _).mono ?_
          rintro e w2 ⟨rfl, hb2⟩
          obtain ⟨y, hy⟩ := HZ.out.2.2.2.2
          have HY := Aside0.mk hy
          obtain ⟨q0, q1⟩ := new_cells hb2
          have HROW2 := Aside0.mk (HROW.out.below (below_step (below_alloc (Below.refl _ _) _) hb2))
          obtain ⟨d0, d1⟩ := HROW2.out.cell hy
          have f0 := HROW2.out.free (i * 2)
          have f1 := HROW2.out.free (i * 2 + 1)
          clear hy
          go_wp2
          go_roundw
          case rel => exact ⟨i + 1, j + 1, by go_num, by go_num, by omega, by omega, ⟨del_keep HD.out HZ.out HPX.out HROW.out (below_step (below_alloc (Below.refl _ _) _) hb2)⟩⟩
          case measure => simp [intOf]; omega
      · have t1 : decide ((j : Int) < (xs.length : Int)) = false := decide_eq_false (by omega)
        have t2 : decide (j < xs.length) = false := decide_eq_false hlt
        obtain ⟨W', hcl, hW, hG⟩ := del_end HD.out (by omega) cap
        have HW := Aside0.mk hW
        have HG := Aside0.mk hG
        clear hW hG
        go_wp2
        go_ret
        exact ⟨by rw [← HW.out.2]; rfl, HW.out.1, HG.out⟩
end Go.Proofs.Ythdieelceafidaa.X
