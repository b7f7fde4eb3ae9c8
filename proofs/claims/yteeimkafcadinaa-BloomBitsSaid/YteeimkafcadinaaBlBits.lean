/- BloomBits, walked. -/
import Derived.Test.YteeimkafcadinaaBlHas
namespace Go.Proofs.Yteeimkafcadinaa.X
open Go.RowKit Go.Sort Go.Proofs.Yteeimkafcadinaa.B Go.Proofs.Yteeimkafcadinaa Go.Proofs.YteeimkafcadinaaW.PrintWords Go.Proofs.YteeimkafcadinaaW.PrintLast Go.Proofs.YteeimkafcadinaaW.PrintMore

set_option maxHeartbeats 8000000 in
theorem blbits_calls (A0 : Option Addr) (c0 : Nat) (a : List ByteArray) (A1 : Option Addr) (c1 : Nat) (b : List ByteArray) (w : World) (hC0 : Kd.C Kd.string w A0 a.length a) (hc0 : a.length ≤ c0) (hC1 : Kd.C Kd.string w A1 b.length b) (hc1 : b.length ≤ c1) :
    Calls Try.prog 6 #[.slice A0 a.length c0, .slice A1 b.length c1] w fun e w' => e = .returned (.bool true) ∧ Below w.heap.size w w' := by
  have HC0 := Aside0.mk hC0
  have HC1 := Aside0.mk hC1
  obtain ⟨r0, hr0, hk0⟩ := heavy_calls A0 c0 a w hC0 hc0
  have HK := Aside0.mk hk0
  have HQ := Aside0.mk (fun W (hW : Below w.heap.size w W) => heavy_calls A1 c1 b W (Kd.C_below hC1 hW) hc1)
  clear hk0 hC0 hC1
  cases r0 with
  | true =>
    clear hr0 HQ
    go_enter Try.func6, Try.ntmps6
    go_wp2_with (refine HK.out.mono ?_; rintro e w1 ⟨rfl, hb1⟩; have HB := Aside0.mk hb1; clear hb1 HK)
    go_ret
    exact ⟨rfl, HB.out⟩
  | false =>
    have HL0 := Aside0.mk (hr0 rfl)
    clear hr0
    go_enter Try.func6, Try.ntmps6
    go_wp2_with (refine HK.out.mono ?_; rintro e w1 ⟨rfl, hb1⟩; have HB := Aside0.mk hb1; clear hb1 HK)
    obtain ⟨r1, hr1, hk1⟩ := HQ.out _ HB.out
    have HK := Aside0.mk hk1
    clear hk1 HQ
    cases r1 with
    | true =>
      clear hr1
      go_wp2_with (refine HK.out.mono ?_; rintro e w2 ⟨rfl, hb2⟩; have HB2 := Aside0.mk (below_step HB.out hb2); clear hb2)
      go_ret
      exact ⟨rfl, HB2.out⟩
    | false =>
      have HL1 := Aside0.mk (hr1 rfl)
      have hbl := HL1.out.1
      clear hr1
      go_wp2_with (refine HK.out.mono ?_; rintro e w2 ⟨rfl, hb2⟩; have HB2 := Aside0.mk (below_step HB.out hb2); clear hb2 HB HK)
      by_cases hm : 2048 < a.length
      · refine (build_many A0 c0 a.length _ hm).mono ?_
        rintro e w3 ⟨rfl, rfl⟩
        go_wp2_with fail
        refine (refbuild_many A0 c0 a.length _ hm).mono ?_
        rintro e w4 ⟨rfl, rfl⟩
        go_wp2
        go_ret
        exact ⟨rfl, HB2.out⟩
      · refine (build_calls A0 c0 a _ HL0.out.small (by omega) (Kd.C_below HC0.out HB2.out)).mono ?_
        rintro e w3 ⟨g, gB, c, rfl, hg, hgB, hF, hb3⟩
        have HB := Aside0.mk (below_step HB2.out hb3)
        have HF := Aside0.mk hF
        clear hb3 hF HB2
        go_wp2_with fail
        refine (refbuild_calls A0 c0 a _ HL0.out.small (by omega) (Kd.C_below HC0.out HB.out)).mono ?_
        rintro e w5 ⟨g', gB', c', rfl, hg', hgB', hG, hb5⟩
        have HB5 := Aside0.mk (below_step HB.out hb5)
        have HF5 := Aside0.mk (HF.out.below hb5)
        have HG5 := Aside0.mk hG
        clear hb5 hG HB HF
        generalize bloom a = xs at HF5 HG5 ⊢
        have tk1 : True := trivial
        have hgc := HG5.out.cell
        have hgK := conv_back (HG5.out.row.below (below_drew (Below.refl _ _)))
        go_wp2_with fail
        go_region_law (refine goes_ Try.func10 (by kernel_rfl) rfl #[.pointer (some ⟨g, 0, none⟩)] (by rfl) rfl rfl (by simp only [List.map_toArray, List.map_cons, List.map_nil]; rfl) ?_; refine (bytes_calls _ (HF5.out.below (below_drew (Below.refl _ _)))).mono ?_; rintro e w7 ⟨g7, c7, rfl, hg7, hr7, hb7⟩; refine ⟨_, rfl, ?_⟩; have hx7 := below_step (below_drew (Below.refl _ _)) hb7; have HF7 := Aside0.mk (HF5.out.below hx7); have HG7 := Aside0.mk (HG5.out.below hx7); have HB7 := Aside0.mk (below_step HB5.out hx7); have K7 := conv_back hr7; have hgc7 := HG7.out.cell; have hgK7 := conv_back HG7.out.row; clear hx7 hb7 hr7 HF5 HG5 HB5)
        all_goals
          clear hgc hgK K7 hgc7 hgK7
          go_simp
          go_wp2_with fail
          go_loopw [9] (fun v9 wr => ∃ i : Nat, v9 = .int .i64 i ∧ i ≤ b.length ∧ Aside0 (Below w7.heap.size w7 wr)) (fun v9 _ => b.length - (intOf v9).toNat)
          case atStart => exact ⟨0, rfl, by omega, Aside0.mk (Below.refl _ _)⟩
          case round =>
            obtain ⟨i, rfl, hi, HZ⟩ := hrel
            by_cases hlt : i < b.length
            · have t1 : decide ((i : Int) < (b.length : Int)) = true := decide_eq_true (by omega)
              have t2 : decide (i < b.length) = true := decide_eq_true hlt
              obtain ⟨ad, s, hA, hsi, hcs⟩ := at_name (Kd.C_below HC1.out (below_step HB7.out HZ.out)) i hlt
              subst hA
              have HAT := Aside0.mk (fun (W : World) (hW : Below w.heap.size w W) => (show W.cell? (ad.add i) = some (.string s) from by
                obtain ⟨ad2, s2, e1, e2, h⟩ := at_name (Kd.C_below HC1.out hW) i hlt
                cases e1
                rw [hsi] at e2
                cases e2
                exact h))
              have HS := Aside0.mk (HL1.out.small s (List.mem_of_getElem? hsi))
              have hi2 : (i : Int) < (b.length : Int) := by omega
              clear hsi
              go_wp2_with fail
              go_region_law (first | (clear tk1; refine goes_ Try.func13 (by kernel_rfl) rfl #[.pointer (some ⟨g, 0, none⟩), .string s] (by rfl) rfl rfl (by simp only [List.map_toArray, List.map_cons, List.map_nil]; rfl) ?_; refine (has_calls s _ HS.out (HF7.out.below (below_drew HZ.out))).mono ?_; rintro e w8 ⟨rfl, hb8⟩; refine ⟨_, rfl, ?_⟩; have HZ8 := Aside0.mk (below_step (below_drew HZ.out) hb8); have hcs8 := HAT.out _ (below_step HB7.out HZ8.out); clear hb8; have tk2 : True := trivial) | (clear tk2; refine goes_ Try.func14 (by kernel_rfl) rfl #[.pointer (some ⟨g', 0, none⟩), .string s] (by rfl) rfl rfl (by simp only [List.map_toArray, List.map_cons, List.map_nil]; rfl) ?_; refine (refhas_calls s _ HS.out (HG7.out.below HZ8.out)).mono ?_; rintro e w9 ⟨rfl, hb9⟩; refine ⟨_, rfl, ?_⟩; have HZ9 := Aside0.mk (below_step HZ8.out hb9); clear hb9))
              all_goals
                go_simp
                go_wp2
                go_roundw
                case rel => exact ⟨i + 1, by go_num, by omega, HZ9⟩
                case measure => simp [intOf]; omega
            · have t1 : decide ((i : Int) < (b.length : Int)) = false := decide_eq_false (by omega)
              have t2 : decide (i < b.length) = false := decide_eq_false hlt
              go_wp2
              go_ret
              exact ⟨rfl, below_step HB7.out HZ.out⟩
end Go.Proofs.Yteeimkafcadinaa.X
