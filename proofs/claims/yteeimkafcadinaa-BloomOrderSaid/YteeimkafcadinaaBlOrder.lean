/- BloomOrder, walked. -/
import Derived.Test.YteeimkafcadinaaBlHas
namespace Go.Proofs.Yteeimkafcadinaa.X
open Go.RowKit Go.Sort Go.Proofs.Yteeimkafcadinaa.B Go.Proofs.Yteeimkafcadinaa Go.Proofs.YteeimkafcadinaaW.PrintWords Go.Proofs.YteeimkafcadinaaW.PrintLast Go.Proofs.YteeimkafcadinaaW.PrintMore

theorem bloom_reverse (a : List ByteArray) : bloom a.reverse = bloom a := bloom_perm (List.length_reverse) (fun _ => List.mem_reverse)
set_option maxHeartbeats 8000000 in
theorem blorder_calls (A0 : Option Addr) (c0 : Nat) (a : List ByteArray) (y : ByteArray) (w : World) (hC0 : Kd.C Kd.string w A0 a.length a) (hc0 : a.length ≤ c0) :
    Calls Try.prog 5 #[.slice A0 a.length c0, .string y] w fun e w' => e = .returned (.bool true) ∧ Below w.heap.size w w' := by
  have HC0 := Aside0.mk hC0
  obtain ⟨r0, hr0, hk0⟩ := heavy_calls A0 c0 a w hC0 hc0
  have HK := Aside0.mk hk0
  clear hk0 hC0
  cases r0 with
  | true =>
    clear hr0
    go_enter Try.func5, Try.ntmps5
    go_wp2_with (refine HK.out.mono ?_; rintro e w1 ⟨rfl, hb1⟩; have HB := Aside0.mk hb1; clear hb1 HK)
    go_ret
    exact ⟨rfl, HB.out⟩
  | false =>
    have HL0 := Aside0.mk (hr0 rfl)
    clear hr0
    by_cases hm : 2048 < a.length
    · have t1 : decide (2048 < (a.length : Int)) = true := decide_eq_true (by omega)
      have t2 : decide (2048 < a.length) = true := decide_eq_true hm
      go_enter Try.func5, Try.ntmps5
      go_wp2_with (refine HK.out.mono ?_; rintro e w1 ⟨rfl, hb1⟩; have HB := Aside0.mk hb1; clear hb1 HK)
      go_ret
      exact ⟨rfl, HB.out⟩
    · have t1 : decide (2048 < (a.length : Int)) = false := decide_eq_false (by omega)
      have t2 : decide (2048 < a.length) = false := decide_eq_false hm
      by_cases hy : 4096 < y.size
      · have t3 : decide (4096 < (y.size : Int)) = true := decide_eq_true (by omega)
        have t4 : decide (4096 < y.size) = true := decide_eq_true hy
        go_enter Try.func5, Try.ntmps5
        go_wp2_with (refine HK.out.mono ?_; rintro e w1 ⟨rfl, hb1⟩; have HB := Aside0.mk hb1; clear hb1 HK)
        go_ret
        exact ⟨rfl, HB.out⟩
      · have t3 : decide (4096 < (y.size : Int)) = false := decide_eq_false (by omega)
        have t4 : decide (4096 < y.size) = false := decide_eq_false hy
        have hsub : IntKind.i64.wrap ((a.length : Int) - 1) = (a.length : Int) - 1 := IntWalk.i64_in _ (by omega)
        go_enter Try.func5, Try.ntmps5
        go_wp2_with (first | (refine HK.out.mono ?_; rintro e w2 ⟨rfl, hb2⟩; have HB := Aside0.mk hb2; clear hb2 HK) | ((with_reducible refine gate_dst (N := 25) rfl ?_); refine Kd.R_lit Kd.string _ 9 ?hg (N := 25) ?hd (xs := ([] : List ByteArray)) (inner := []) (ok := fun _ => True) (okp := fun _ => True) ?hr ?hp (fun _ hk => hk) trivial (Below.refl _ _) (Nat.le_refl _) (by simp) ?_; (case hd => rfl); (case hg => rfl); (case hr => first | (go_simp; done) | (go_simp; rfl)); (case hp => exact (Reps.none _ _)); intro v1 w4 ho5 hb hg_ hnew_; clear hg_ hnew_; have HO := Aside0.mk ho5; have HX := Aside0.mk hb; clear hb ho5))
        clear t1 t2 t3 t4
        go_loopw [5, 6] (fun v5 v6 wr => ∃ k : Nat, v6 = .int .i64 ((a.length : Int) - 1 - (k : Int)) ∧ k ≤ a.length ∧ Aside0 (Kd.R Kd.string 9 wr w2.heap.size (fun _ => True) v5 (a.reverse.take k)) ∧ Aside0 (Below w2.heap.size w2 wr)) (fun _ v6 _ => (intOf v6 + 1).toNat)
        case atStart => exact ⟨0, by go_num, Nat.zero_le _, HO, HX⟩
        case round =>
          obtain ⟨k, rfl, hk, HO1, HX1⟩ := hrel
          by_cases hlt : k < a.length
          · have t1 : decide (0 ≤ (a.length : Int) - 1 - (k : Int)) = true := decide_eq_true (by omega)
            obtain ⟨j, hj⟩ : ∃ j : Nat, (a.length : Int) - 1 - (k : Int) = (j : Int) := ⟨a.length - 1 - k, by omega⟩
            rw [hj] at t1 ⊢
            have t0 : decide (0 ≤ (j : Int)) = true := decide_eq_true (by omega)
            have hjl : j < a.length := by omega
            have hjl2 : (j : Int) < (a.length : Int) := by omega
            obtain ⟨ad, s, hA, hsi, hcs⟩ := at_name (Kd.C_below HC0.out (below_step HB.out HX1.out)) j hjl
            subst hA
            have hrk : a.reverse[k]? = some s := by
              rw [List.getElem?_reverse hlt, show a.length - 1 - k = j by omega]
              exact hsi
            have HRK := Aside0.mk hrk
            have hwj : IntKind.i64.wrap ((j : Int) - 1) = (j : Int) - 1 := IntWalk.i64_in _ (by omega)
            clear hsi hrk
            go_wp2_with ((with_reducible refine gate_builtin (b := .append) (xs := #[.tmp 33, .tmp 38]) rfl ?_); at_builtin; refine Kd.R_append Kd.string (w0 := w2) w2.heap.size rfl (.tmp 33) (.tmp 38) 22 9 (.string ByteArray.empty) 16 rfl Try.underlying22 info9 rfl (by decide) (by omega) u5 (a.reverse.take k) s [.string s] (fun _ => True) (fun _ => False) rfl rfl ?aP (fun _ hk => hk.elim) (fun _ _ => trivial) HO1.out HX1.out (below_size HX1.out) ?aL ?_; (case aP => rfl); (case aL => have := List.length_take_le k a.reverse; omega); intro v126 w21 ho hb hg hat; have n0_ := Aside0.mk (hb); have n1_ := Aside0.mk (ho); clear HX1 HO1; have HX1 := n0_; have HO1 := n1_; clear n0_ n1_; clear ho hb hg hat)
            go_roundw
            case rel => exact ⟨k + 1, by go_num, by omega, by rw [List.take_add_one, HRK.out]; exact HO1, HX1⟩
            case measure => simp [intOf] <;> omega
          · have t1 : decide (0 ≤ (a.length : Int) - 1 - (k : Int)) = false := decide_eq_false (by omega)
            have hkk : k = a.length := by omega
            obtain ⟨ar, HAR, HO2⟩ : ∃ ar : List ByteArray, Aside0 (ar.length = a.length ∧ (∀ s, s ∈ ar → s ∈ a) ∧ bloom ar = bloom a) ∧ Aside0 (Kd.R Kd.string 9 wr w2.heap.size (fun _ => True) u5 ar) := ⟨a.reverse, ⟨⟨List.length_reverse, fun s hs => List.mem_reverse.1 hs, bloom_reverse a⟩⟩, ⟨by have := HO1.out; rwa [List.take_of_length_le (by rw [List.length_reverse]; omega)] at this⟩⟩
            clear HO1
            go_wp2_with fail
            obtain ⟨A2, c2, rfl, hle2, hR2⟩ := Kd.R_reads HO2.out
            have HR2 := Aside0.mk hR2
            clear hR2 HO2
            with_reducible refine (build_calls A0 c0 a _ HL0.out.small (by omega) (Kd.C_below HC0.out (below_step HB.out HX1.out))).mono ?_
            rintro e w3 ⟨g1, gB1, d1, rfl, hg1, hgB1, hF1, hb3⟩
            have HB3 := Aside0.mk (below_step (below_step HB.out HX1.out) hb3)
            have HR3 := Aside0.mk (Kd.C_below HR2.out hb3)
            have HF1 := Aside0.mk hF1
            clear hb3 hF1 HR2 HX1 HB
            go_wp2_with fail
            (with_reducible refine (build_calls A2 c2 ar _ (fun s hs => HL0.out.small s (HAR.out.2.1 s hs)) (by have := HAR.out.1; omega) HR3.out).mono ?_)
            rintro e w4 ⟨g2, gB2, d2, rfl, hg2, hgB2, hF2, hb4⟩
            rw [HAR.out.2.2] at hF2
            have HB4 := Aside0.mk (below_step HB3.out hb4)
            have HF1' := Aside0.mk (HF1.out.below hb4)
            have HF2 := Aside0.mk hF2
            clear hb4 hF2 HR3 HB3 HF1
            go_wp2_with fail
            refine (build_calls none 0 [] _ (fun s hs => by cases hs) (by simp) ⟨rfl, by simp, by simp⟩).mono ?_
            rintro e w5 ⟨g3, gB3, d3, rfl, hg3, hgB3, hF3, hb5⟩
            have HB5 := Aside0.mk (below_step HB4.out hb5)
            have HF1 := Aside0.mk (HF1'.out.below hb5)
            have HF2' := Aside0.mk (HF2.out.below hb5)
            have HF3 := Aside0.mk hF3
            have HNO := Aside0.mk (bloom_none y)
            have HY := Aside0.mk (show y.size ≤ 140737488351232 from by omega)
            have e8 : (bloom []).length = 8 := bloom_len []
            clear hb5 hF3 HB4 HF1' HF2
            have HF2 := HF2'
            clear HF2'
            generalize bloom a = xs at HF1 HF2 ⊢
            generalize bloom [] = zs at HF3 HNO e8 ⊢
            have tk1 : True := trivial
            go_wp2_with fail
            go_region_law (first | (clear tk1; refine goes_ Try.func10 (by kernel_rfl) rfl #[.pointer (some ⟨g1, 0, none⟩)] (by rfl) rfl rfl (by simp only [List.map_toArray, List.map_cons, List.map_nil]; rfl) ?_; refine (bytes_calls _ (HF1.out.below (below_drew (Below.refl _ _)))).mono ?_; rintro e w7 ⟨g7, c7, rfl, hg7, hr7, hb7⟩; refine ⟨_, rfl, ?_⟩; have hx7 := below_step (below_drew (Below.refl _ _)) hb7; have HF27 := Aside0.mk (HF2.out.below hx7); have HF37 := Aside0.mk (HF3.out.below hx7); have HB7 := Aside0.mk (below_step HB5.out hx7); have HR7 := Aside0.mk hr7; have K7 := conv_back hr7; clear hx7 hb7 hr7 HF1 HF2 HF3 HB5; have tk2 : True := trivial) | (clear tk2; refine goes_ Try.func10 (by kernel_rfl) rfl #[.pointer (some ⟨g2, 0, none⟩)] (by rfl) rfl rfl (by simp only [List.map_toArray, List.map_cons, List.map_nil]; rfl) ?_; refine (bytes_calls _ HF27.out).mono ?_; rintro e w8 ⟨g8, c8, rfl, hg8, hr8, hb8⟩; refine ⟨_, rfl, ?_⟩; have HF38 := Aside0.mk (HF37.out.below hb8); have HB8 := Aside0.mk (below_step HB7.out hb8); have K78 := conv_back (HR7.out.below hb8); have K8 := conv_back hr8; clear hb8 hr8; have tk3 : True := trivial) | (clear tk3; refine goes_ Try.func13 (by kernel_rfl) rfl #[.pointer (some ⟨g3, 0, none⟩), .string y] (by rfl) rfl rfl (by simp only [List.map_toArray, List.map_cons, List.map_nil]; rfl) ?_; refine (has_calls y _ HY.out HF38.out).mono ?_; rintro e w9 ⟨rfl, hb9⟩; rw [HNO.out]; refine ⟨_, rfl, ?_⟩; have HF39 := Aside0.mk (HF38.out.below hb9); have HB9 := Aside0.mk (below_step HB8.out hb9); clear hb9; have tk4 : True := trivial) | (clear tk4; refine goes_ Try.func10 (by kernel_rfl) rfl #[.pointer (some ⟨g3, 0, none⟩)] (by rfl) rfl rfl (by simp only [List.map_toArray, List.map_cons, List.map_nil]; rfl) ?_; refine (bytes_calls _ HF39.out).mono ?_; rintro e w10 ⟨g10, c10, rfl, hg10, hr10, hb10⟩; rw [e8]; refine ⟨_, rfl, ?_⟩; have HB10 := Aside0.mk (below_step HB9.out hb10); clear hb10 hr10))
            all_goals
              go_simp
              go_wp2
              go_ret
              exact ⟨rfl, HB10.out⟩
end Go.Proofs.Yteeimkafcadinaa.X
