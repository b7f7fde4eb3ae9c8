/- What slices.Grow of nil and slices.Concat of rows of points do. -/
import Derived.Test.YtfamnbejimbenaaLib
import Derived.IntWalk
namespace Go.Proofs.Ytfamnbejimbenaa.X
open Go.RowKit Go.Sort Go.Proofs.Ytfamnbejimbenaa.G Go.Proofs.YtfamnbejimbenaaW.PrintWords Go.Proofs.YtfamnbejimbenaaW.PrintLast Go.Proofs.YtfamnbejimbenaaW.PrintMore

theorem info24 : (Try.prog.info? 24).map (fun i => (i.zero, i.size, i.bytes)) = some (some (.agg #[(.int .i64 0), (.int .u64 0), (.int .u64 0)]), 3, 24) := by kernel_rfl
set_option maxHeartbeats 1000000 in
theorem grow_nil (n : Nat) (w : World) (hn : n ≤ 1000000) : Calls Try.prog 34 #[.slice none 0 0, .int .i64 n] w fun e w' => ∃ v, e = .returned v ∧ Kd.R k24 24 w' w.heap.size (fun _ => True) v [] ∧ Below w.heap.size w w' := by
  rcases Nat.eq_zero_or_pos n with rfl | hp
  · go_enter Try.func34, Try.ntmps34
    go_wp2
    go_ret
    exact ⟨_, rfl, Kd.R_nil _ _ _ _ _, Below.refl _ _⟩
  · have t1 : decide ((n : Int) < 0) = false := decide_eq_false (by omega)
    have t2 : decide (0 < (n : Int)) = true := decide_eq_true (by omega)
    have t3 : decide (0 < n) = true := decide_eq_true hp
    have h0 : (0 : Int) ≤ (n : Int) := by omega
    have HN := Aside0.mk hn
    go_enter Try.func34, Try.ntmps34
    go_wp2_with ((with_reducible refine gate_builtin (b := .append) (xs := #[.tmp 20, .tmp 21]) rfl ?_); at_builtin; refine Kd.R_append_zeros k24 (w0 := w) w.heap.size rfl (.tmp 20) (.tmp 21) 29 3 24 (.agg #[(.int .i64 0), (.int .u64 0), (.int .u64 0)]) 24 rfl Try.underlying29 Try.underlying3 info24 rfl (by decide) (by decide) (.slice none 0 0) [] z24 (n : Int) (fun _ => True) rfl rfl (k24_mkM _ _ _ z24) (fun _ _ => trivial) (Kd.R_nil _ _ _ _ _) h0 (Below.refl _ _) (Nat.le_refl _) (by have := HN.out; simp; omega) ?_; intro v1 w1 ho hb hg hat; obtain ⟨A1, c1, hs⟩ := Kd.R_slice ho; simp only [List.nil_append, List.length_replicate, Int.toNat_natCast] at hs; subst hs; have HO := Aside0.mk ho; have HB := Aside0.mk hb; clear ho hb hg hat)
    go_ret
    exact ⟨_, rfl, by have := Kd.R_take HO.out (m := 0) (Nat.zero_le _); simpa using this, HB.out⟩
/-- A row of rows that is read: row i. -/
theorem at_row {w : World} {A : Option Addr} {xs : List (List S24)} (h : Kd.C (Kd.slice 24 k24) w A xs.length xs) (i : Nat) (hi : i < xs.length) : ∃ ad A1 c1 x, A = some ad ∧ xs[i]? = some x ∧ w.cell? (ad.add i) = some (.slice A1 x.length c1) ∧ x.length ≤ c1 ∧ Kd.C k24 w A1 x.length x := by
  obtain ⟨ad, A1, c1, e, hc, hl, hC⟩ := at_L3 h (i : Int) (by omega) (by omega)
  have hr : rd_L3 xs (i : Int) = xs[i] := by simp [rd_L3, hi]
  rw [hr, Int.toNat_natCast] at hc
  rw [hr] at hl hC
  exact ⟨ad, A1, c1, xs[i], e, List.getElem?_eq_getElem hi, hc, hl, hC⟩
theorem flat_next {xs : List (List S24)} {i : Nat} {x : List S24} (hx : xs[i]? = some x) : (xs.take (i + 1)).flatten = (xs.take i).flatten ++ x := by
  rw [List.take_add_one, hx]; simp
theorem flat_le (xs : List (List S24)) (i : Nat) : (xs.take i).flatten.length ≤ xs.flatten.length := by
  have := congrArg (fun l => (List.flatten l).length) (List.take_append_drop i xs)
  simp only [List.flatten_append, List.length_append] at this
  omega
/-- The second loop of Concat. -/
structure ConcAt (l0 : List (List S24)) (w wr : World) (i : Nat) (v : Value) : Prop where
  out : Kd.R k24 24 wr w.heap.size (fun _ => True) v (l0.take i).flatten
  below : Below w.heap.size w wr
set_option maxHeartbeats 2000000 in
theorem concat_calls (A0 : Option Addr) (c0 : Nat) (l0 : List (List S24)) (w : World) (hl : l0.flatten.length ≤ 1000000) (hl0 : l0.length ≤ 1000000) (hC : Kd.C (Kd.slice 24 k24) w A0 l0.length l0) :
    Calls Try.prog 26 #[.slice A0 l0.length c0] w fun e w' => ∃ v, e = .returned v ∧ Kd.R k24 24 w' w.heap.size (fun _ => True) v l0.flatten ∧ Below w.heap.size w w' := by
  have HC := Aside0.mk hC
  have HL := Aside0.mk hl
  clear hC hl
  go_enter Try.func26, Try.ntmps26
  go_wp2
  go_loop [3, 11] (fun v3 v11 => ∃ i n : Nat, v11 = .int .i64 i ∧ v3 = .int .i64 n ∧ i ≤ l0.length ∧ n ≤ 1000000 ∧ Aside0 (n = (l0.take i).flatten.length)) (fun _ v11 => l0.length - (intOf v11).toNat)
  case atStart => exact ⟨0, 0, rfl, rfl, Nat.zero_le _, by omega, ⟨by simp⟩⟩
  case round =>
    obtain ⟨i, n, rfl, rfl, hi, hn, HN⟩ := hrel
    by_cases hlt : i < l0.length
    · have t1 : decide ((i : Int) < (l0.length : Int)) = true := decide_eq_true (by omega)
      have t2 : decide (i < l0.length) = true := decide_eq_true hlt
      obtain ⟨ad, A1, c1, x, rfl, hx, hc, hle, hC1⟩ := at_row HC.out i hlt
      have HN2 := Aside0.mk (show n + x.length = (l0.take (i + 1)).flatten.length by rw [flat_next hx, List.length_append, HN.out])
      have hb : n + x.length ≤ 1000000 := by have := HN2.out; have h2 := flat_le l0 (i + 1); have h3 := HL.out; omega
      have t3 : decide ((n : Int) + (x.length : Int) < 0) = false := decide_eq_false (by omega)
      clear hx hC1
      go_wp2
      go_round
      case rel => exact ⟨i + 1, n + x.length, by go_num, by go_num, by omega, hb, HN2⟩
      case measure => simp [intOf]; omega
    · have t1 : decide ((i : Int) < (l0.length : Int)) = false := decide_eq_false (by omega)
      have t2 : decide (i < l0.length) = false := decide_eq_false hlt
      clear HN
      go_wp2_with fail
      refine (grow_nil n w hn).mono ?_
      rintro e w1 ⟨v, rfl, hv, hb1⟩
      obtain ⟨A, ca, hs⟩ := Kd.R_slice hv
      have D := Aside0.mk (show ConcAt l0 w w1 0 v from ⟨by simpa using hv, hb1⟩)
      rw [show ([] : List S24).length = 0 from rfl] at hs
      subst hs
      clear hv hb1 t1 t2 hlt hi hn
      go_wp2_with fail
      go_loopw [6, 27] (fun v6 v27 wr => ∃ (i : Nat) (A : Option Addr) (ca : Nat), v27 = .int .i64 i ∧ v6 = .slice A (l0.take i).flatten.length ca ∧ i ≤ l0.length ∧ Aside0 (ConcAt l0 w wr i v6)) (fun _ v27 _ => l0.length - (intOf v27).toNat)
      case atStart => exact ⟨0, A, ca, rfl, rfl, Nat.zero_le _, D⟩
      case round =>
        obtain ⟨i, A, ca, rfl, rfl, hi, HD⟩ := hrel
        by_cases hlt : i < l0.length
        · have t1 : decide ((i : Int) < (l0.length : Int)) = true := decide_eq_true (by omega)
          have t2 : decide (i < l0.length) = true := decide_eq_true hlt
          obtain ⟨ad, A1, c1, x, rfl, hx, hc, hle, hC1⟩ := at_row (Kd.C_below HC.out HD.out.below) i hlt
          have HX := Aside0.mk hx
          have HC1 := Aside0.mk hC1
          have HSZ := Aside0.mk (show ((l0.take i).flatten.length + x.length) * 24 ≤ 140737488355328 by
            have h2 := flat_le l0 (i + 1)
            have h3 := HL.out
            rw [flat_next hx, List.length_append] at h2
            omega)
          clear hx hC1
          go_wp2_with ((with_reducible refine gate_builtin (b := .append) (xs := #[.tmp 31, .tmp 32]) rfl ?_); at_builtin; refine Kd.R_append_rows k24 (w0 := w) w.heap.size rfl (.tmp 31) (.tmp 32) 29 24 (.agg #[(.int .i64 0), (.int .u64 0), (.int .u64 0)]) 24 rfl Try.underlying29 info24 rfl (by decide) (by decide) (.slice A (l0.take i).flatten.length ca) (l0.take i).flatten x A1 x.length c1 (fun _ => True) (fun _ => False) rfl rfl HD.out.out HC1.out (fun y cs hy => by rw [k24_open hy]; exact k24_mkM _ _ _ y) (fun _ h => h.elim) (fun _ _ => trivial) HD.out.below HD.out.below.size HSZ.out ?_; intro v1 w2 ho hb hg hat; have HO := Aside0.mk ho; have HB := Aside0.mk hb; clear ho hb hg hat)
          obtain ⟨A2, c2, hs⟩ := Kd.R_slice HO.out
          rw [← flat_next HX.out] at hs
          subst hs
          go_roundw
          case rel => exact ⟨i + 1, A2, c2, by go_num, rfl, by omega, ⟨by rw [flat_next HX.out]; rw [flat_next HX.out] at HO; exact HO.out, HB.out⟩⟩
          case measure => simp [intOf]; omega
        · have t1 : decide ((i : Int) < (l0.length : Int)) = false := decide_eq_false (by omega)
          have t2 : decide (i < l0.length) = false := decide_eq_false hlt
          have HE := Aside0.mk (show l0.take i = l0 from List.take_of_length_le (by omega))
          go_wp2
          go_ret
          exact ⟨_, rfl, by have := HD.out.out; rw [HE.out] at this; rw [HE.out]; exact this, HD.out.below⟩
end Go.Proofs.Ytfamnbejimbenaa.X
