/- ranges.Add of any ranges and one more: the contract, in the print's form. -/
import Derived.Test.YthdieelceafidaaNormal
import Derived.Deep.RegionWith
import Derived.Deep.RegionLawGrows
namespace Go.Proofs.Ythdieelceafidaa.X
open Go.RowKit Go.Proofs.Ythdieelceafidaa.G Go.Proofs.YthdieelceafidaaW.PrintWords Go.Proofs.YthdieelceafidaaW.PrintLast Go.Proofs.YthdieelceafidaaW.PrintMore

theorem clip_calls (A : Option Addr) (n c : Nat) (hc : n ≤ c) (w : World) : Calls Try.prog 28 #[.slice A n c] w fun e w' => e = .returned (.slice A n n) ∧ w' = w := by
  go_enter Try.func28, Try.ntmps28
  go_wp2
  go_ret
  exact ⟨rfl, rfl⟩
/-- The cells of a row that is read. -/
def cellsR (xs : List S24) : List Value := xs.flatMap encR
theorem cellsR_len (xs : List S24) : (cellsR xs).length = xs.length * 2 := by
  induction xs with
  | nil => rfl
  | cons x xs ih => simp only [cellsR, List.flatMap_cons, List.length_append, List.length_cons] at *; rw [ih]; simp [encR]; omega
theorem cellsR_at (xs : List S24) (i : Nat) (x : S24) (h : xs[i]? = some x) : (cellsR xs)[i * 2]? = some (.int .i64 x.f0) ∧ (cellsR xs)[i * 2 + 1]? = some (.int .i64 x.f1) := by
  induction xs generalizing i with
  | nil => simp at h
  | cons y xs ih =>
    cases i with
    | zero => simp at h; subst h; exact ⟨rfl, rfl⟩
    | succ i =>
      have h' : xs[i]? = some x := by simpa using h
      have := ih i h'
      have e : cellsR (y :: xs) = [.int .i64 y.f0, .int .i64 y.f1] ++ cellsR xs := rfl
      rw [e, List.getElem?_append_right (by simp; omega), List.getElem?_append_right (by simp; omega)]
      simpa [show (i + 1) * 2 - 2 = i * 2 by omega, show (i + 1) * 2 + 1 - 2 = i * 2 + 1 by omega] using this
theorem cellsR_snoc (xs : List S24) (x : S24) : cellsR (xs ++ [x]) = cellsR xs ++ [.int .i64 x.f0, .int .i64 x.f1] := by
  simp [cellsR, encR]
theorem cells_read {W : World} {ad : Addr} {xs : List S24} (h : Kd.C k24 W (some ad) xs.length xs) (j : Nat) (u : Value) (hu : (cellsR xs)[j]? = some u) : W.cell? (ad.add j) = some u := by
  have hj : j < xs.length * 2 := by rw [← cellsR_len]; exact (List.getElem?_eq_some_iff.1 hu).1
  obtain ⟨i, hji⟩ : ∃ i, j = i * 2 ∨ j = i * 2 + 1 := ⟨j / 2, by omega⟩
  have hi : i < xs.length := by omega
  obtain ⟨ad', e, hc⟩ := h.2.2 (by omega)
  obtain rfl := Option.some.inj e
  obtain ⟨c, hs, hK, hcell⟩ := hc i _ (List.getElem?_eq_getElem hi)
  obtain rfl := k24_open hK
  have hR := cellsR_at xs i _ (List.getElem?_eq_getElem hi)
  rcases hji with rfl | rfl
  · rw [hR.1] at hu
    obtain rfl := Option.some.inj hu
    exact hcell 0 _ rfl
  · rw [hR.2] at hu
    obtain rfl := Option.some.inj hu
    exact hcell 1 _ rfl
theorem row_of_owns {w : World} {base : Nat} {v : Value} {xs : List S24} (h : w.ownsRow base 24 2 v xs.length (cellsR xs)) : Kd.R k24 24 w base (fun _ => True) v xs := by
  refine ⟨fun _ _ => trivial, cellsR xs, h, cellsR_len xs, fun i x hi => ?_⟩
  have hR := cellsR_at xs i x hi
  have hi' : i < xs.length := (List.getElem?_eq_some_iff.1 hi).1
  have e : (((cellsR xs).drop (i * 2)).take 2) = [.int .i64 x.f0, .int .i64 x.f1] := by
    apply List.ext_getElem?
    intro j
    match j with
    | 0 => rw [List.getElem?_take_of_lt (by omega), List.getElem?_drop, Nat.add_zero, hR.1]; rfl
    | 1 => rw [List.getElem?_take_of_lt (by omega), List.getElem?_drop, hR.2]; rfl
    | j + 2 => rw [List.getElem?_take_eq_none (by omega)]; simp
  show k24.M w base _ x (((cellsR xs).drop (i * 2)).take 2)
  rw [e]
  exact k24_mkM w base _ x
theorem news_at {w : World} {o : Obj} {a b : Value} {j : Nat} {u : Value} (hu : ([a, b] : List Value)[j]? = some u) : ((w.alloc o).alloc (.cells #[a, b] 24)).drew.cell? ((⟨w.heap.size + 1, 0, none⟩ : Addr).add j) = some u := by
  have h := heap_alloc_new (w.alloc o) (.cells #[a, b] 24)
  have e : (w.alloc o).heap.size = w.heap.size + 1 := by simp
  rw [e] at h
  rw [add_plain]
  match j, hu with
  | 0, hu => obtain rfl := Option.some.inj hu; exact cell_of_row _ _ _ _ _ _ h
  | 1, hu => obtain rfl := Option.some.inj hu; exact cell_of_row _ _ _ _ _ _ h
  | j + 2, hu => simp at hu
theorem own_conv {w w1 W : World} {v : Value} {xs : List S24} {a b : Int} (hb : Below w.heap.size w W) (ho : w1.ownsRow W.heap.size 24 2 v (xs.length + 1) (cellsR xs ++ [.int .i64 a, .int .i64 b])) (hg : W.grownBy w1 none) :
    ∃ A c, v = .slice A (xs.length + 1) c ∧ (xs ++ [(⟨a, b⟩ : S24)]).length ≤ c ∧ Kd.C k24 w1 A (xs ++ [(⟨a, b⟩ : S24)]).length (xs ++ [(⟨a, b⟩ : S24)]) ∧ Below w.heap.size w w1 := by
  have e := cellsR_snoc xs ⟨a, b⟩
  rw [show [Value.int .i64 a, Value.int .i64 b] = [Value.int .i64 (⟨a, b⟩ : S24).f0, Value.int .i64 (⟨a, b⟩ : S24).f1] from rfl, ← e, show xs.length + 1 = (xs ++ [(⟨a, b⟩ : S24)]).length by simp] at ho
  obtain ⟨A, c, e1, e2, e3⟩ := Kd.R_reads (row_of_owns ho)
  rw [show (xs ++ [(⟨a, b⟩ : S24)]).length = xs.length + 1 by simp] at e1
  exact ⟨A, c, e1, e2, e3, hb.grown hg hb.size (fun k hk => by cases hk)⟩
def ranges_Add.f (l0 : List S24) (a1_0 a1_1 : Int) : Option (List S24) := if l0.length < 999999 then some (nf (l0 ++ [⟨a1_0, a1_1⟩])) else none
theorem normal_at (n : Nat) (A0 : Option Addr) (c0 : Nat) (l0 : List S24) (r : List S24) (w : World) (hn : l0.length = n) (hr0 : Kd.C k24 w A0 l0.length l0) (hc0 : l0.length ≤ c0) (h : ranges_Normal.f l0 = some r) :
    Calls Try.prog 8 #[.slice A0 n c0] w fun e w' => ∃ v0_ : Value, e = .returned v0_ ∧ Kd.R k24 24 w' w.heap.size (fun _ => True) v0_ r ∧ Below w.heap.size w w' := by
  subst hn
  exact ranges_Normal.calls A0 c0 l0 r w hr0 hc0 h
set_option maxHeartbeats 1000000 in
theorem ranges_Add.calls (A0 : Option Addr) (c0 : Nat) (l0 : List S24) (a1_0 : Int) (a1_1 : Int) (r : List S24) (w : World) (hr0 : Kd.C k24 w A0 l0.length l0) (hc0 : l0.length ≤ c0) (h : ranges_Add.f l0 a1_0 a1_1 = some r) :
    Calls Try.prog 9 #[.slice A0 l0.length c0, .agg #[.int .i64 a1_0, .int .i64 a1_1]] w fun e w' => ∃ v0_ : Value, e = .returned v0_ ∧ Kd.R k24 24 w' w.heap.size (fun _ => True) v0_ r ∧ Below w.heap.size w w' := by
  unfold ranges_Add.f at h
  split at h
  rotate_left
  · cases h
  rename_i hn
  obtain rfl := Option.some.inj h
  clear h
  have HR := Aside0.mk hr0
  have HC := Aside0.mk hc0
  have HN := Aside0.mk hn
  clear hr0 hn
  have hclip := fun W => clip_calls A0 l0.length c0 hc0 W
  have HCLIP := Aside0.mk hclip
  clear hclip hc0
  obtain ⟨i0, hi0⟩ : ∃ i0, Try.prog.info? 24 = some i0 ∧ i0.zero = some (.agg #[.int .i64 0, .int .i64 0]) ∧ i0.size = 2 ∧ i0.bytes = 16 := by
    obtain ⟨i0, hi, hz⟩ := Option.map_eq_some_iff.1 info24
    simp only [Prod.mk.injEq] at hz
    exact ⟨i0, hi, hz.1, hz.2.1, hz.2.2⟩
  have HI0 := Aside0.mk hi0
  clear hi0
  have HO := Aside0.mk (show ∀ W, Below w.heap.size w W → ∀ b, A0 = some b → ∀ j u, (cellsR l0)[j]? = some u → W.cell? (b.add j) = some u from fun W hb b e j u hu => cells_read (by rw [← e]; exact Kd.C_below HR.out hb) j u hu)
  have HNONE := Aside0.mk (show A0 = none → l0.length = 0 ∧ l0.length = 0 from fun e => by
    rcases Nat.eq_zero_or_pos l0.length with h1 | h1
    · exact ⟨h1, h1⟩
    · obtain ⟨ad, e2, _⟩ := HR.out.2.2 h1
      rw [e] at e2; cases e2)
  have HB3 := Aside0.mk (show ∀ u ∈ [Value.int .i64 a1_0, Value.int .i64 a1_1], u.oneCell' = true from fun u hu => by simp at hu; rcases hu with rfl | rfl <;> rfl)
  have HB5 := Aside0.mk (show l0.length + 1 ≤ maxLen by have := HN.out; simp only [maxLen]; omega)
  have HB6 := Aside0.mk (show (l0.length + 1) * 16 ≤ 140737488355328 by have := HN.out; omega)
  have HNF := Aside0.mk (show ranges_Normal.f (l0 ++ [(⟨a1_0, a1_1⟩ : S24)]) = some (nf (l0 ++ [⟨a1_0, a1_1⟩])) from if_pos (by have := HN.out; rw [List.length_append]; simp; omega))
  go_enter Try.func9, Try.ntmps9
  go_wp2_with fail
  go_region_law (first | (refine goes_ Try.func28 (by kernel_rfl) rfl #[.slice A0 l0.length c0] (by rfl) rfl rfl (by simp only [List.map_toArray, List.map_cons, List.map_nil]; rfl) ?_; refine (HCLIP.out _).mono ?_; rintro e w' ⟨rfl, rfl⟩; refine ⟨_, rfl, ?_⟩) | (refine step_append_grows rfl (.tmp 6) (.tmp 8) 22 rfl 24 i0 (.agg #[.int .i64 0, .int .i64 0]) 2 16 Try.underlying22 HI0.out.1 HI0.out.2.1 HI0.out.2.2.1 HI0.out.2.2.2 rfl (by decide) A0 l0.length l0.length (cellsR l0) rfl HNONE.out (cellsR_len l0) ?b1 ⟨w.heap.size + 1, 0, none⟩ 1 1 [.int .i64 a1_0, .int .i64 a1_1] rfl rfl ?b2 HB3.out ?b4 HB5.out HB6.out ?_; (case b1 => exact HO.out _ (by repeat (first | apply below_alloc | apply pw_below_drewN | apply below_drew1 | exact Below.refl _ _))); (case b2 => intro j u hu; exact news_at hu); (case b4 => omega); intro v1 w1 ho1 hg1; obtain ⟨A1, c1, hv1, hle1, hC1, hbb⟩ := own_conv (w := w) (by repeat (first | apply below_alloc | apply pw_below_drewN | apply below_drew1 | exact Below.refl _ _)) ho1 hg1; subst hv1; have HC1 := Aside0.mk hC1; have HLE1 := Aside0.mk hle1; have HBB := Aside0.mk hbb; clear ho1 hg1 hC1 hle1 hbb) | (refine goes_ Try.func8 (by kernel_rfl) rfl #[.slice A1 (l0.length + 1) c1] (by rfl) rfl rfl (by simp only [List.map_toArray, List.map_cons, List.map_nil]; rfl) ?_; refine (normal_at (l0.length + 1) A1 c1 (l0 ++ [(⟨a1_0, a1_1⟩ : S24)]) _ _ (by simp) HC1.out HLE1.out HNF.out).mono ?_; rintro e w2 ⟨v2, rfl, hv2, hb2⟩; have HV2 := Aside0.mk hv2; have HB2 := Aside0.mk hb2; clear hv2 hb2; refine ⟨_, rfl, ?_⟩))
  all_goals (go_wp2; go_ret; exact ⟨v2, rfl, Kd.R_lower HV2.out HBB.out.size, below_step HBB.out HB2.out⟩)
end Go.Proofs.Ythdieelceafidaa.X
