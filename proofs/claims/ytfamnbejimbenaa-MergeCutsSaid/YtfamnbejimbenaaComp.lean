/- What slices.CompactFunc does with a sorted row of points of the call's own: the walk. -/
import Derived.Test.YtfamnbejimbenaaLib
import Derived.Deep.RegionWith
import Derived.IntWalk
import Derived.Deep.RegionLaw
namespace Go.Proofs.Ytfamnbejimbenaa.X
open Go.RowKit Go.Sort Go.Proofs.Ytfamnbejimbenaa.G Go.Proofs.YtfamnbejimbenaaW.PrintWords Go.Proofs.YtfamnbejimbenaaW.PrintLast Go.Proofs.YtfamnbejimbenaaW.PrintMore

theorem sameT_iff (x y : S24) : sameT x y = true ↔ x.f0 = y.f0 := by simp [sameT]
theorem take_snoc {xs : List S24} {i : Nat} {x : S24} (hx : xs[i]? = some x) : xs.take (i + 1) = xs.take i ++ [x] := by rw [List.take_add_one, hx]; rfl
theorem asis_start (xs : List S24) : compact (xs.take 1) = xs.take 1 := by
  cases xs with
  | nil => rfl
  | cons x l => simp [compact, compactFrom]
theorem asis_next {xs : List S24} {g cap i : Nat} {x y : S24} {w wr w2 : World} (D : AsIs xs g cap w wr (i + 1)) (hx : xs[i + 1]? = some x) (hy : xs[i]? = some y) (hs : sameT x y = false) (hb : Below wr.heap.size wr w2) : AsIs xs g cap w w2 (i + 1 + 1) := by
  refine ⟨?_, D.row.below hb, World.grownBy.trans D.grown (grown_of_below hb _)⟩
  rw [compact_next hx hy, D.same, take_snoc hx, if_neg (fun e => by rw [(sameT_iff x y).2 e] at hs; cases hs)]
theorem comp_start {xs : List S24} {g cap i : Nat} {x y : S24} {w wr w2 : World} (D : AsIs xs g cap w wr (i + 1)) (hx : xs[i + 1]? = some x) (hy : xs[i]? = some y) (hs : sameT x y = true) (hb : Below wr.heap.size wr w2) : CompAt xs g cap w w2 (i + 1) (i + 1 + 0) := by
  have hi : i + 1 < xs.length := (List.getElem?_eq_some_iff.1 hx).1
  refine ⟨Nat.le_refl _, hi, ⟨xs, rfl, ?_, rfl, D.row.below hb⟩, World.grownBy.trans D.grown (grown_of_below hb _)⟩
  show xs.take (i + 1) = compact (xs.take (i + 2))
  rw [compact_next hx hy, D.same, if_pos ((sameT_iff x y).1 hs), List.append_nil]
/-- What stands at the place that is read next, at the one before it, and at the one that is written. -/
theorem comp_open {xs : List S24} {g cap k j : Nat} {w wr : World} (D : CompAt xs g cap w wr k j) (hj : j + 1 < xs.length) :
    ∃ zs x y, Row wr g cap zs ∧ zs.length = xs.length ∧ zs.take k = compact (xs.take (j + 1)) ∧ zs.drop j = xs.drop j ∧ xs[j + 1]? = some x ∧ xs[j]? = some y ∧ zs[j + 1]? = some x ∧ zs[j]? = some y ∧ ∃ u, zs[k]? = some u := by
  obtain ⟨zs, z1, z2, z3, z4⟩ := D.row
  have hk := D.lt
  have hat : ∀ i, j ≤ i → zs[i]? = xs[i]? := fun i hi => by
    have := congrArg (fun l => l[i - j]?) z3
    simp only [List.getElem?_drop] at this
    rwa [show j + (i - j) = i by omega] at this
  exact ⟨zs, xs[j + 1], xs[j], z4, z1, z2, z3, List.getElem?_eq_getElem hj, List.getElem?_eq_getElem (by omega), by rw [hat _ (by omega)]; exact List.getElem?_eq_getElem hj, by rw [hat _ (by omega)]; exact List.getElem?_eq_getElem (by omega), zs[k]'(by omega), List.getElem?_eq_getElem (by omega)⟩
theorem comp_skip {xs : List S24} {g cap k j : Nat} {x y : S24} {w wr w2 : World} (D : CompAt xs g cap w wr k j) (hx : xs[j + 1]? = some x) (hy : xs[j]? = some y) (hs : sameT x y = true) (hb : Below wr.heap.size wr w2) : CompAt xs g cap w w2 k (j + 1) := by
  obtain ⟨zs, z1, z2, z3, z4⟩ := D.row
  have hk := D.lt
  have hj : j + 1 < xs.length := (List.getElem?_eq_some_iff.1 hx).1
  refine ⟨by omega, hj, ⟨zs, z1, ?_, ?_, z4.below hb⟩, World.grownBy.trans D.grown (grown_of_below hb _)⟩
  · show zs.take k = compact (xs.take (j + 2))
    rw [compact_next hx hy, z2, if_pos ((sameT_iff x y).1 hs), List.append_nil]
  · have := congrArg (List.drop 1) z3
    simpa only [List.drop_drop] using this
theorem comp_keep {xs : List S24} {g cap k j : Nat} {x y : S24} {w wr w2 : World} (D : CompAt xs g cap w wr k j) (hx : xs[j + 1]? = some x) (hy : xs[j]? = some y) (hs : sameT x y = false) (hb : Below wr.heap.size wr w2) :
    CompAt xs g cap w (((w2.setCell ⟨g, k * 3, none⟩ (.int .i64 x.f0)).setCell ⟨g, k * 3 + 1, none⟩ (.int .u64 x.f1)).setCell ⟨g, k * 3 + 2, none⟩ (.int .u64 x.f2)) (k + 1) (j + 1) := by
  obtain ⟨zs, z1, z2, z3, z4⟩ := D.row
  have hk := D.lt
  have hj : j + 1 < xs.length := (List.getElem?_eq_some_iff.1 hx).1
  refine ⟨by omega, hj, ⟨zs.set k x, by simpa using z1, ?_, ?_, (z4.below hb).set k x⟩, World.grownBy.trans D.grown (World.grownBy.trans (grown_of_below hb _) (World.grownBy.trans (grownBy_set _ _ _ _) (World.grownBy.trans (grownBy_set _ _ _ _) (grownBy_set _ _ _ _))))⟩
  · show (zs.set k x).take (k + 1) = compact (xs.take (j + 2))
    have e : (zs.set k x)[k]? = some x := by rw [List.getElem?_set_self (by omega)]
    rw [compact_next hx hy, ← z2, if_neg (fun e => by rw [(sameT_iff x y).2 e] at hs; cases hs), List.take_add_one, e, List.take_set_of_le (by omega)]
    rfl
  · rw [List.drop_set_of_lt (by omega)]
    have := congrArg (List.drop 1) z3
    simpa only [List.drop_drop] using this
theorem comp_end {xs : List S24} {g cap k j : Nat} {w wr : World} (D : CompAt xs g cap w wr k j) (hj : xs.length ≤ j + 1) (c : Nat) :
    ∃ W', (Builtin.clear_ #[29] 0 #[.slice (some ⟨g, k * 3, none⟩) (xs.length - k) (c - k)]).run Try.prog wr = .ok (.tuple #[]) W' ∧ (Row W' g cap (compact xs) ∧ k = (compact xs).length) ∧ w.grownBy W' (some g) := by
  obtain ⟨zs, z1, z2, z3, hr⟩ := D.row
  have hk := D.lt
  have hle := D.le
  have hcap := hr.le
  have e : xs.take (j + 1) = xs := List.take_of_length_le hj
  rw [e] at z2
  obtain ⟨W', h1, h2, h3⟩ := clear_tail (hr.take k) (m := k) (n := xs.length) (by omega) (by omega) (by rw [List.length_take]; omega) (c - k) 0
  refine ⟨W', h1, ⟨by rw [← z2]; exact h2, by rw [← z2, List.length_take]; omega⟩, World.grownBy.trans D.grown h3⟩
theorem asis_end {xs : List S24} {g cap i : Nat} {w wr : World} (D : AsIs xs g cap w wr (i + 1)) (hi : xs.length ≤ i + 1) : compact xs = xs := by
  have e : xs.take (i + 1) = xs := List.take_of_length_le hi
  have := D.same
  rwa [e] at this
set_option maxHeartbeats 4000000 in
theorem compactFunc_calls (g0 cap : Nat) (xs : List S24) (w : World) (hR : Row w g0 cap xs) :
    Calls Try.prog 29 #[.slice (some ⟨g0, 0, none⟩) xs.length cap, .func (.func 30) #[] #[]] w fun e w' => e = .returned (.slice (some ⟨g0, 0, none⟩) (compact xs).length cap) ∧ Row w' g0 cap (compact xs) ∧ w.grownBy w' (some g0) := by
  have HR := Aside0.mk hR
  have hl := hR.le
  clear hR
  by_cases h2 : xs.length < 2
  · have t1 : decide ((xs.length : Int) < 2) = true := decide_eq_true (by omega)
    have t2 : decide (xs.length < 2) = true := decide_eq_true h2
    have HE := Aside0.mk (show compact xs = xs by
      match xs, h2 with
      | [], _ => rfl
      | [x], _ => rfl)
    rw [HE.out]
    go_enter Try.func29, Try.ntmps29
    go_wp2
    go_ret
    exact ⟨rfl, HR.out, grown_of_below (Below.refl _ _) _⟩
  · have t1 : decide ((xs.length : Int) < 2) = false := decide_eq_false (by omega)
    have t2 : decide (xs.length < 2) = false := decide_eq_false h2
    go_enter Try.func29, Try.ntmps29
    go_wp2
    clear t1 t2
    go_loopw [5] (fun v5 wr => ∃ i : Nat, v5 = .int .i64 ((i : Int) + 1) ∧ i + 1 ≤ xs.length ∧ Aside0 (AsIs xs g0 cap w wr (i + 1))) (fun v5 _ => xs.length - (intOf v5).toNat)
    case atStart => exact ⟨0, rfl, by omega, ⟨asis_start xs, HR.out, grown_of_below (Below.refl _ _) _⟩⟩
    case round =>
      obtain ⟨i, rfl, hk2, HD⟩ := hrel
      by_cases hlt : i + 1 < xs.length
      · have t1 : decide ((i : Int) + 1 < (xs.length : Int)) = true := decide_eq_true (by omega)
        have t2 : decide (i + 1 < xs.length) = true := decide_eq_true hlt
        obtain ⟨c0, c1, c2⟩ := HD.out.row.cell (List.getElem?_eq_getElem hlt)
        have hkm : xs[i]? = some (xs[i]'(by omega)) := List.getElem?_eq_getElem (by omega)
        obtain ⟨d0, d1, d2⟩ := HD.out.row.cell hkm
        have HX := Aside0.mk (List.getElem?_eq_getElem hlt)
        have HY := Aside0.mk hkm
        clear hkm
        generalize xs[i + 1] = x at c0 c1 c2 HX
        generalize (xs[i]'(by omega)) = y at d0 d1 d2 HY
        have HQ := Aside0.mk (fun W => sameT_calls x y W)
        have hw1 : IntKind.i64.wrap (i : Int) = (i : Int) := IntWalk.i64_in _ (by omega)
        have hw2 : (0 : Int) ≤ (i : Int) + 1 := by omega
        have hw3 : ((i : Int) + 1).toNat = i + 1 := by omega
        have hw4 : (i : Int) < (xs.length : Int) := by omega
        have hw5 : (i : Int) + 1 < (xs.length : Int) := by omega
        have hw6 : i + 1 < xs.length := hlt
        have hw7 : i < xs.length := by omega
        by_cases hs : sameT x y = true
        · rw [hs] at HQ
          have HS := Aside0.mk hs
          clear hs
          go_wp2_with fail
          go_region_law (refine goesV_ Try.func30 (by kernel_rfl) rfl #[.agg #[.int .i64 x.f0, .int .u64 x.f1, .int .u64 x.f2], .agg #[.int .i64 y.f0, .int .u64 y.f1, .int .u64 y.f2]] (by rfl) rfl rfl (by rfl) (by simp only [List.map_toArray, List.map_cons, List.map_nil]; rfl) ?_; refine (HQ.out _).mono ?_; rintro e w1 ⟨rfl, hb⟩; refine ⟨_, rfl, ?_⟩)
          all_goals
            have HD2 := Aside0.mk (comp_start HD.out HX.out HY.out HS.out (below_step (below_drew (Below.refl _ _)) hb))
            clear HD HX HY HS c0 c1 c2 d0 d1 d2 hw1 hw4 hb
            have hcap : ¬ cap = i + 1 := by omega
            have hle1 : i + 1 ≤ xs.length := by omega
            have hle2 : (i : Int) + 1 ≤ (xs.length : Int) := by omega
            go_wp2
            obtain ⟨n2, hn2⟩ : ∃ n2, xs.length - (i + 1) = n2 := ⟨_, rfl⟩
            obtain ⟨c2, hc2⟩ : ∃ c2, cap - (i + 1) = c2 := ⟨_, rfl⟩
            rw [hn2, hc2]
            have HN2 := Aside0.mk (show xs.length = i + 1 + n2 ∧ cap = i + 1 + c2 from ⟨by omega, by omega⟩)
            have hn4 : 1 ≤ n2 := by omega
            have hn5 : n2 ≤ c2 := by omega
            have hn6 : i + 1 + c2 ≤ 9223372036854775807 := by omega
            clear hn2 hc2 t1 t2 hw2 hw3 hw5 hw6 hw7 hcap hle1 hle2 hl hk2 hlt
            go_loopw [5, 7] (fun v5 v7 wr => ∃ k m : Nat, v5 = .int .i64 ((k : Int) + 1) ∧ v7 = .int .i64 ((m : Int) + 1) ∧ k ≤ i + m ∧ m + 1 ≤ n2 ∧ Aside0 (CompAt xs g0 cap w wr (k + 1) (i + 1 + m))) (fun _ v7 _ => n2 - (intOf v7).toNat)
            case atStart => exact ⟨i, 0, rfl, rfl, by omega, by omega, HD2⟩
            case round =>
              obtain ⟨k, m, rfl, rfl, hkm, hm, HE⟩ := hrel
              by_cases hlt2 : m + 1 < n2
              · have t1 : decide ((m : Int) + 1 < (n2 : Int)) = true := decide_eq_true (by omega)
                have t2 : decide (m + 1 < n2) = true := decide_eq_true hlt2
                obtain ⟨zs, x, y, hrow, z1, z2, z3, hx, hy, zx, zy, u, hu⟩ := comp_open HE.out (by have := HN2.out.1; omega)
                obtain ⟨c0, c1, c2'⟩ := hrow.cell zx
                obtain ⟨d0, d1, d2⟩ := hrow.cell zy
                rw [show (i + 1 + m + 1) * 3 = (i + 1) * 3 + (m + 1) * 3 by omega] at c0 c1 c2'
                rw [show (i + 1 + m) * 3 = (i + 1) * 3 + m * 3 by omega] at d0 d1 d2
                have HX := Aside0.mk hx
                have HY := Aside0.mk hy
                have HROW := Aside0.mk hrow
                have HZX := Aside0.mk zx
                have HU := Aside0.mk hu
                have HQ := Aside0.mk (fun W => sameT_calls x y W)
                have hw1 : IntKind.i64.wrap (m : Int) = (m : Int) := IntWalk.i64_in _ (by omega)
                have hw2 : (0 : Int) ≤ (m : Int) + 1 := by omega
                have hw3 : ((m : Int) + 1).toNat = m + 1 := by omega
                have hw4 : (m : Int) < (n2 : Int) := by omega
                have hw5 : (m : Int) + 1 < (n2 : Int) := by omega
                clear hx hy hrow z1 z2 z3 zx zy hu
                by_cases hs : sameT x y = true
                · rw [hs] at HQ
                  have HS := Aside0.mk hs
                  clear hs
                  go_wp2_with fail
                  go_region_law (refine goesV_ Try.func30 (by kernel_rfl) rfl #[.agg #[.int .i64 x.f0, .int .u64 x.f1, .int .u64 x.f2], .agg #[.int .i64 y.f0, .int .u64 y.f1, .int .u64 y.f2]] (by rfl) rfl rfl (by rfl) (by simp only [List.map_toArray, List.map_cons, List.map_nil]; rfl) ?_; refine (HQ.out _).mono ?_; rintro e w2 ⟨rfl, hb⟩; refine ⟨_, rfl, ?_⟩)
                  all_goals
                    have HD3 := Aside0.mk (comp_skip HE.out HX.out HY.out HS.out (below_step (below_drew (Below.refl _ _)) hb))
                    clear HE HX HY HS HROW HZX HU c0 c1 c2' d0 d1 d2 hw1 hw4 hb
                    go_wp2
                    go_roundw
                    case rel => exact ⟨k, m + 1, rfl, by go_num, by omega, by omega, HD3⟩
                    case measure => simp [intOf]; omega
                · replace hs := Bool.eq_false_iff.mpr hs
                  rw [hs] at HQ
                  have HS := Aside0.mk hs
                  clear hs
                  go_wp2_with fail
                  go_region_law (refine goesV_ Try.func30 (by kernel_rfl) rfl #[.agg #[.int .i64 x.f0, .int .u64 x.f1, .int .u64 x.f2], .agg #[.int .i64 y.f0, .int .u64 y.f1, .int .u64 y.f2]] (by rfl) rfl rfl (by rfl) (by simp only [List.map_toArray, List.map_cons, List.map_nil]; rfl) ?_; refine (HQ.out _).mono ?_; rintro e w2 ⟨rfl, hb⟩; refine ⟨_, rfl, ?_⟩)
                  all_goals
                    have HB2 := Aside0.mk (below_step (below_drew (Below.refl _ _)) hb)
                    have HROW2 := Aside0.mk (HROW.out.below HB2.out)
                    clear c0 c1 c2' d0 d1 d2 hb
                    obtain ⟨c0, c1, c2'⟩ := HROW2.out.cell HZX.out
                    rw [show (i + 1 + m + 1) * 3 = (i + 1) * 3 + (m + 1) * 3 by omega] at c0 c1 c2'
                    obtain ⟨d0, d1, d2⟩ := HROW2.out.cell HU.out
                    have f0 := HROW2.out.free ((k + 1) * 3)
                    have f1 := HROW2.out.free ((k + 1) * 3 + 1)
                    have f2 := HROW2.out.free ((k + 1) * 3 + 2)
                    have hw6 : (0 : Int) ≤ (k : Int) + 1 := by omega
                    have hw7 : ((k : Int) + 1).toNat = k + 1 := by omega
                    have hw8 : (k : Int) + 1 < (xs.length : Int) := by have := HN2.out.1; omega
                    go_wp2
                    go_roundw
                    case rel => exact ⟨k + 1, m + 1, by go_num, by go_num, by omega, by omega, ⟨comp_keep HE.out HX.out HY.out HS.out HB2.out⟩⟩
                    case measure => simp [intOf]; omega
              · have t1 : decide ((m : Int) + 1 < (n2 : Int)) = false := decide_eq_false (by omega)
                have t2 : decide (m + 1 < n2) = false := decide_eq_false hlt2
                obtain ⟨W', hcl, hW, hG⟩ := comp_end HE.out (by have := HN2.out.1; omega) cap
                have HW := Aside0.mk hW
                have HG := Aside0.mk hG
                have hcap : ¬ cap = k + 1 := by have := HN2.out; omega
                have hle1 : k + 1 ≤ xs.length := by have := HN2.out; omega
                have hle2 : (k : Int) + 1 ≤ (xs.length : Int) := by omega
                have hle3 : k + 1 ≤ cap := by have := HN2.out; omega
                have hle4 : (k : Int) + 1 ≤ (cap : Int) := by omega
                have hw6 : (0 : Int) ≤ (k : Int) + 1 := by omega
                have hw7 : ((k : Int) + 1).toNat = k + 1 := by omega
                clear hW hG
                go_wp2
                go_ret
                exact ⟨by rw [← HW.out.2]; rfl, HW.out.1, HG.out⟩
        · replace hs := Bool.eq_false_iff.mpr hs
          rw [hs] at HQ
          have HS := Aside0.mk hs
          clear hs
          go_wp2_with fail
          go_region_law (refine goesV_ Try.func30 (by kernel_rfl) rfl #[.agg #[.int .i64 x.f0, .int .u64 x.f1, .int .u64 x.f2], .agg #[.int .i64 y.f0, .int .u64 y.f1, .int .u64 y.f2]] (by rfl) rfl rfl (by rfl) (by simp only [List.map_toArray, List.map_cons, List.map_nil]; rfl) ?_; refine (HQ.out _).mono ?_; rintro e w1 ⟨rfl, hb⟩; refine ⟨_, rfl, ?_⟩)
          all_goals
            have HD2 := Aside0.mk (asis_next HD.out HX.out HY.out HS.out (below_step (below_drew (Below.refl _ _)) hb))
            clear HD HX HY HS c0 c1 c2 d0 d1 d2 hw1 hw4 hb
            go_wp2
            go_roundw
            case rel => exact ⟨i + 1, by go_num, by omega, HD2⟩
            case measure => simp [intOf]; omega
      · have t1 : decide ((i : Int) + 1 < (xs.length : Int)) = false := decide_eq_false (by omega)
        have t2 : decide (i + 1 < xs.length) = false := decide_eq_false hlt
        have HE := Aside0.mk (asis_end HD.out (by omega))
        go_wp2
        go_ret
        exact ⟨by rw [HE.out]; rfl, by rw [HE.out]; exact HD.out.row, HD.out.grown⟩
end Go.Proofs.Ytfamnbejimbenaa.X
