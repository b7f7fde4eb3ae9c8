/- BloomHas, walked. -/
import Derived.Laws.BytesArg
import Derived.Test.YteeimkafcadinaaMore
namespace Go.Proofs.Yteeimkafcadinaa.X
open Go.RowKit Go.Sort Go.Proofs.Yteeimkafcadinaa.B Go.Proofs.Yteeimkafcadinaa Go.Proofs.YteeimkafcadinaaW.PrintWords Go.Proofs.YteeimkafcadinaaW.PrintLast Go.Proofs.YteeimkafcadinaaW.PrintMore

theorem conv_back {w : World} {g c : Nat} {bs : List Int} (h : BRow w g c bs) : (convert 28 9 (.slice (some ⟨g, 0, none⟩) bs.length c)).run Try.prog w = .ok (.string (strOfNums bs)) w := by
  refine run_convert_bytes_arg w 28 5 Try.underlying28 Try.underlying5 g 0 bs.length c bs rfl (fun i hi => ?_) 9 Try.underlying9
  rw [Nat.zero_add, h.cell (List.getElem?_eq_getElem hi)]
  simp [List.getD_eq_getElem?_getD, hi]
theorem okLen_size {n : Nat} (h : n ≤ 2048) : okLen (sizeOfF n) = true := by
  unfold okLen sizeOfF
  simp only [Bool.and_eq_true, decide_eq_true_eq]
  split <;> omega
set_option maxHeartbeats 8000000 in
theorem blhas_calls (A0 : Option Addr) (c0 : Nat) (a : List ByteArray) (w : World) (hC0 : Kd.C Kd.string w A0 a.length a) (hc0 : a.length ≤ c0) (hn0 : a.length ≤ 140737488355328) :
    Calls Try.prog 7 #[.slice A0 a.length c0] w fun e w' => e = .returned (.bool true) ∧ Below w.heap.size w w' := by
  have HC0 := Aside0.mk hC0
  obtain ⟨r0, hr0, hk0⟩ := heavy_calls A0 c0 a w hC0 hc0
  have HK := Aside0.mk hk0
  clear hk0 hC0
  cases r0 with
  | true =>
    clear hr0
    go_enter Try.func7, Try.ntmps7
    go_wp2_with (refine HK.out.mono ?_; rintro e w1 ⟨rfl, hb1⟩; have HB := Aside0.mk hb1; clear hb1 HK)
    go_ret
    exact ⟨rfl, HB.out⟩
  | false =>
    have HL0 := Aside0.mk (hr0 rfl)
    clear hr0
    by_cases hm : 2048 < a.length
    · have t1 : decide (2048 < (a.length : Int)) = true := decide_eq_true (by omega)
      have t2 : decide (2048 < a.length) = true := decide_eq_true hm
      go_enter Try.func7, Try.ntmps7
      go_wp2_with (refine HK.out.mono ?_; rintro e w1 ⟨rfl, hb1⟩; have HB := Aside0.mk hb1; clear hb1 HK)
      go_ret
      exact ⟨rfl, HB.out⟩
    · have t1 : decide (2048 < (a.length : Int)) = false := decide_eq_false (by omega)
      have t2 : decide (2048 < a.length) = false := decide_eq_false hm
      go_enter Try.func7, Try.ntmps7
      go_wp2_with (refine HK.out.mono ?_; rintro e w2 ⟨rfl, hb2⟩; have HB2 := Aside0.mk hb2; clear hb2 HK)
      refine (build_calls A0 c0 a _ HL0.out.small (by omega) (Kd.C_below HC0.out HB2.out)).mono ?_
      rintro e w3 ⟨g, gB, c, rfl, hg, hgB, hF, hb3⟩
      have HB := Aside0.mk (below_step HB2.out hb3)
      have HF := Aside0.mk hF
      clear hb3 hF HB2
      go_wp2_with fail
      refine (bytes_calls _ HF.out).mono ?_
      rintro e w4 ⟨g1, c4, rfl, hg1, hr4, hb4⟩
      have HB4 := Aside0.mk (below_step HB.out hb4)
      have HF4 := Aside0.mk (HF.out.below hb4)
      have HR4 := Aside0.mk hr4
      clear hb4 hr4 HB HF
      go_wp2_with fail
      refine (parse_good ⟨g1, 0, none⟩ c4 (bloom a) _ (by rw [bloom_len]; exact okLen_size (by omega)) (bloom_is a).1 (C_of_brow HR4.out)).mono ?_
      rintro e w5 ⟨g', gB', c', rfl, hg', hgB', hG, hb5⟩
      have HB5 := Aside0.mk (below_step HB4.out hb5)
      have HF5 := Aside0.mk (HF4.out.below hb5)
      have HG5 := Aside0.mk hG
      clear hb5 hG HB4 HF4 HR4 t1 t2
      have HH := Aside0.mk (fun (s : ByteArray) (hs : s ∈ a) => bloom_has hs)
      have hge : 8 ≤ (bloom a).length := HF5.out.ge
      generalize bloom a = xs at HF5 HG5 HH hge ⊢
      go_wp2_with fail
      go_loopw [7] (fun v7 wr => ∃ i : Nat, v7 = .int .i64 i ∧ i ≤ a.length ∧ Aside0 (Below w5.heap.size w5 wr)) (fun v7 _ => a.length - (intOf v7).toNat)
      case atStart => exact ⟨0, rfl, by omega, Aside0.mk (Below.refl _ _)⟩
      case round =>
        obtain ⟨i, rfl, hi, HZ⟩ := hrel
        by_cases hlt : i < a.length
        · have t1 : decide ((i : Int) < (a.length : Int)) = true := decide_eq_true (by omega)
          have t2 : decide (i < a.length) = true := decide_eq_true hlt
          obtain ⟨ad, s, hA, hsi, hcs⟩ := at_name (Kd.C_below HC0.out (below_step HB5.out HZ.out)) i hlt
          subst hA
          have HS := Aside0.mk (HL0.out.small s (List.mem_of_getElem? hsi))
          have HT := Aside0.mk (HH.out s (List.mem_of_getElem? hsi))
          have HSI := Aside0.mk hsi
          have hi2 : (i : Int) < (a.length : Int) := by omega
          clear hsi
          go_wp2_with fail
          refine (has_calls s _ HS.out (HF5.out.below HZ.out)).mono ?_
          rintro e w6 ⟨rfl, hb6⟩
          rw [HT.out]
          have HZ6 := Aside0.mk (below_step HZ.out hb6)
          obtain ⟨ad2, s2, hA2, hsi2, hcs2⟩ := at_name (Kd.C_below HC0.out (below_step HB5.out HZ6.out)) i hlt
          obtain rfl := Option.some.inj hA2
          obtain rfl := Option.some.inj (HSI.out.symm.trans hsi2)
          clear hb6 HZ hcs hsi2 hA2
          go_wp2_with fail
          refine (has_calls s _ HS.out (HG5.out.below HZ6.out)).mono ?_
          rintro e w7 ⟨rfl, hb7⟩
          rw [HT.out]
          have HZ7 := Aside0.mk (below_step HZ6.out hb7)
          clear hb7 HZ6 hcs2
          go_wp2
          go_roundw
          case rel => exact ⟨i + 1, by go_num, by omega, HZ7⟩
          case measure => simp [intOf]; omega
        · have t1 : decide ((i : Int) < (a.length : Int)) = false := decide_eq_false (by omega)
          have t2 : decide (i < a.length) = false := decide_eq_false hlt
          have tk1 : True := trivial
          have HF6 := Aside0.mk (HF5.out.below HZ.out)
          have HG6 := Aside0.mk (HG5.out.below HZ.out)
          have HB6 := Aside0.mk (below_step HB5.out HZ.out)
          have t3 : decide (8 ≤ (xs.length : Int)) = true := decide_eq_true (by omega)
          have t4 : decide (8 ≤ xs.length) = true := decide_eq_true hge
          clear HF5 HG5 HB5 HZ
          go_wp2_with fail
          go_region_law (first | (clear tk1; refine goes_ Try.func10 (by kernel_rfl) rfl #[.pointer (some ⟨g, 0, none⟩)] (by rfl) rfl rfl (by simp only [List.map_toArray, List.map_cons, List.map_nil]; rfl) ?_; refine (bytes_calls _ (HF6.out.below (below_drew (Below.refl _ _)))).mono ?_; rintro e w7 ⟨g7, c7, rfl, hg7, hr7, hb7⟩; refine ⟨_, rfl, ?_⟩; have hx7 := below_step (below_drew (Below.refl _ _)) hb7; have HF7 := Aside0.mk (HF6.out.below hx7); have HG7 := Aside0.mk (HG6.out.below hx7); have HB7 := Aside0.mk (below_step HB6.out hx7); have HR7 := Aside0.mk hr7; have K7 := conv_back hr7; clear hx7 hb7 hr7 HF6 HG6 HB6; have tk2 : True := trivial) | (clear tk2; refine goes_ Try.func10 (by kernel_rfl) rfl #[.pointer (some ⟨g', 0, none⟩)] (by rfl) rfl rfl (by simp only [List.map_toArray, List.map_cons, List.map_nil]; rfl) ?_; (with_reducible refine (bytes_calls _ HG7.out).mono ?_); rintro e w8 ⟨g8, c8, rfl, hg8, hr8, hb8⟩; refine ⟨_, rfl, ?_⟩; have HF8 := Aside0.mk (HF7.out.below hb8); have HB8 := Aside0.mk (below_step HB7.out hb8); have K78 := conv_back (HR7.out.below hb8); have K8 := conv_back hr8; clear hb8 hr8; have tk3 : True := trivial) | (clear tk3; refine goes_ Try.func10 (by kernel_rfl) rfl #[.pointer (some ⟨g, 0, none⟩)] (by rfl) rfl rfl (by simp only [List.map_toArray, List.map_cons, List.map_nil]; rfl) ?_; (with_reducible refine (bytes_calls _ HF8.out).mono ?_); rintro e w9 ⟨g9, c9, rfl, hg9, hr9, hb9⟩; refine ⟨_, rfl, ?_⟩; have HB9 := Aside0.mk (below_step HB8.out hb9); clear hb9 hr9))
          all_goals
            go_simp
            go_wp2
            go_ret
            exact ⟨rfl, HB9.out⟩
end Go.Proofs.Yteeimkafcadinaa.X
