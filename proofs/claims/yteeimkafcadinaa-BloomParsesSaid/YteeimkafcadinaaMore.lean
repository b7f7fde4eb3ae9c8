/- BloomMore, walked. -/
import Derived.Test.YteeimkafcadinaaHas
import Derived.Test.YteeimkafcadinaaBuild
import Derived.Test.YteeimkafcadinaaHeavy
namespace Go.Proofs.Yteeimkafcadinaa.X
open Go.RowKit Go.Sort Go.Proofs.Yteeimkafcadinaa.B Go.Proofs.Yteeimkafcadinaa Go.Proofs.YteeimkafcadinaaW.PrintWords Go.Proofs.YteeimkafcadinaaW.PrintLast Go.Proofs.YteeimkafcadinaaW.PrintMore

theorem info9 : (Try.prog.info? 9).map (fun i => (i.zero, i.size, i.bytes)) = some (some (.string ByteArray.empty), 1, 16) := by kernel_rfl
theorem Light.small {l : List ByteArray} (h : Light l) : ∀ s ∈ l, s.size ≤ 140737488351232 := fun s hs => Nat.le_trans (h.2 s hs) (by omega)
theorem Light.append {a b : List ByteArray} (ha : Light a) (hb : Light b) (h : a.length + b.length ≤ 16384) : Light (a ++ b) :=
  ⟨by rw [List.length_append]; exact h, fun s hs => (List.mem_append.1 hs).elim (ha.2 s) (hb.2 s)⟩
theorem bloom_len (ids : List ByteArray) : (bloom ids).length = sizeOfF ids.length := (bloom_is ids).2.1
theorem heavy_calls (A : Option Addr) (c : Nat) (l : List ByteArray) (w : World) (hC : Kd.C Kd.string w A l.length l) (hc : l.length ≤ c) : ∃ b, (b = false → Light l) ∧
    Calls Try.prog 8 #[.slice A l.length c] w fun e w' => e = .returned (.bool b) ∧ Below w.heap.size w w' := by
  obtain ⟨b, e, hb⟩ := heavy_is l
  exact ⟨b, hb, thermographlaw07_heavy.calls _ A c l b w hC hc e⟩
set_option maxHeartbeats 4000000 in
theorem more_calls (A0 : Option Addr) (c0 : Nat) (a : List ByteArray) (A1 : Option Addr) (c1 : Nat) (b : List ByteArray) (w : World) (hC0 : Kd.C Kd.string w A0 a.length a) (hc0 : a.length ≤ c0) (hC1 : Kd.C Kd.string w A1 b.length b) (hc1 : b.length ≤ c1)
    (hn0 : a.length ≤ 140737488355328) (hn1 : b.length ≤ 140737488355328) :
    Calls Try.prog 3 #[.slice A0 a.length c0, .slice A1 b.length c1] w fun e w' => e = .returned (.bool true) ∧ Below w.heap.size w w' := by
  have HC0 := Aside0.mk hC0
  have HC1 := Aside0.mk hC1
  have hw0 : IntKind.i64.wrap ((a.length : Int) + (b.length : Int)) = (a.length : Int) + (b.length : Int) := IntWalk.i64_in _ (by omega)
  by_cases h4 : 4 < a.length + b.length
  · have t1 : decide (4 < (a.length : Int) + (b.length : Int)) = true := decide_eq_true (by omega)
    have t2 : decide (4 < a.length + b.length) = true := decide_eq_true h4
    clear hC0 hC1
    go_enter Try.func3, Try.ntmps3
    go_wp2
    go_ret
    exact ⟨rfl, Below.refl _ _⟩
  · have t1 : decide (4 < (a.length : Int) + (b.length : Int)) = false := decide_eq_false (by omega)
    have t2 : decide (4 < a.length + b.length) = false := decide_eq_false h4
    obtain ⟨r0, hr0, hk0⟩ := heavy_calls A0 c0 a w hC0 hc0
    cases r0 with
    | true =>
      have HK := Aside0.mk hk0
      clear hk0 hr0 hC0 hC1
      go_enter Try.func3, Try.ntmps3
      go_wp2_with (refine HK.out.mono ?_; rintro e w1 ⟨rfl, hb1⟩; have HB := Aside0.mk hb1; clear hb1)
      go_ret
      exact ⟨rfl, HB.out⟩
    | false =>
      have HL0 := Aside0.mk (hr0 rfl)
      have HK := Aside0.mk hk0
      have HQ := Aside0.mk (fun W (hW : Below w.heap.size w W) => heavy_calls A1 c1 b W (Kd.C_below hC1 hW) hc1)
      clear hk0 hr0 hC0 hC1
      go_enter Try.func3, Try.ntmps3
      go_wp2_with (refine HK.out.mono ?_; rintro e w1 ⟨rfl, hb1⟩; have HB := Aside0.mk hb1; clear hb1 HK)
      obtain ⟨r1, hr1, hk1⟩ := HQ.out _ HB.out
      cases r1 with
      | true =>
        have HK := Aside0.mk hk1
        clear hk1 hr1
        go_wp2_with (refine HK.out.mono ?_; rintro e w2 ⟨rfl, hb2⟩; have HB2 := Aside0.mk (below_step HB.out hb2); clear hb2)
        go_ret
        exact ⟨rfl, HB2.out⟩
      | false =>
        have HL1 := Aside0.mk (hr1 rfl)
        have HK := Aside0.mk hk1
        clear hk1 hr1
        go_wp2_with (refine HK.out.mono ?_; rintro e w2 ⟨rfl, hb2⟩; have HB2 := Aside0.mk (below_step HB.out hb2); clear hb2 HB HK)
        refine (build_calls A0 c0 a _ HL0.out.small (by omega) (Kd.C_below HC0.out HB2.out)).mono ?_
        rintro e w3 ⟨g, gB, c, rfl, hg, hgB, hF, hb3⟩
        have HB := Aside0.mk (below_step HB2.out hb3)
        have HF := Aside0.mk hF
        clear hb3 hF HB2 HQ
        go_wp2_with (first | ((with_reducible refine gate_dst (N := 32) rfl ?_); refine Kd.R_lit Kd.string _ 9 ?hg (N := 32) ?hd (xs := ([] : List ByteArray)) (inner := []) (ok := fun _ => True) (okp := fun _ => True) ?hr ?hp (fun _ hk => hk) trivial (Below.refl _ _) (Nat.le_refl _) (by simp) ?_; (case hd => rfl); (case hg => rfl); (case hr => first | (go_simp; done) | (go_simp; rfl)); (case hp => exact (Reps.none _ _)); intro v261 w4 ho5 hb hg_ hnew_; clear hg_ hnew_; have HO := Aside0.mk ho5; have HX := Aside0.mk hb; clear hb ho5) | ((with_reducible refine gate_builtin (b := .append) (xs := #[.tmp 33, .tmp 34]) rfl ?_); at_builtin; refine Kd.R_append_rows Kd.string (w0 := w3) w3.heap.size rfl (.tmp 33) (.tmp 34) 22 9 (.string ByteArray.empty) 16 rfl Try.underlying22 info9 rfl (by decide) (by decide) v261 [] a _ _ _ (fun _ => True) (fun _ => False) rfl rfl HO.out ?aR (fun x cs h => h) (fun _ h => h.elim) (fun _ _ => trivial) HX.out (below_size HX.out) ?aL ?_; (case aR => exact Kd.C_below HC0.out (below_step HB.out HX.out)); (case aL => simp; omega); intro v262 w5 ho hb hg hat; have HOn := Aside0.mk ho; have HXn := Aside0.mk hb; clear HO HX ho hb hg hat; have HO := HOn; have HX := HXn; clear HOn HXn) | ((with_reducible refine gate_builtin (b := .append) (xs := #[.tmp 36, .tmp 37]) rfl ?_); at_builtin; refine Kd.R_append_rows Kd.string (w0 := w3) w3.heap.size rfl (.tmp 36) (.tmp 37) 22 9 (.string ByteArray.empty) 16 rfl Try.underlying22 info9 rfl (by decide) (by decide) v262 ([] ++ a) b _ _ _ (fun _ => True) (fun _ => False) rfl rfl HO.out ?aR (fun x cs h => h) (fun _ h => h.elim) (fun _ _ => trivial) HX.out (below_size HX.out) ?aL ?_; (case aR => exact Kd.C_below HC1.out (below_step HB.out HX.out)); (case aL => simp; omega); intro v263 w6 ho hb hg hat; have HOn := Aside0.mk ho; have HXn := Aside0.mk hb; clear HO HX ho hb hg hat; have HO := HOn; have HX := HXn; clear HOn HXn))
        obtain ⟨A2, c2, rfl, hle2, hR2⟩ := Kd.R_reads HO.out
        simp only [List.nil_append] at hle2 hR2 ⊢
        refine (build_calls A2 c2 (a ++ b) _ (HL0.out.append HL1.out (by omega)).small (by rw [List.length_append]; omega) hR2).mono ?_
        rintro e w7 ⟨g', gB', c', rfl, hg', hgB', hF', hb7⟩
        have HB7 := Aside0.mk (below_step HB.out (below_step HX.out hb7))
        have HF7 := Aside0.mk (HF.out.below (below_step HX.out hb7))
        have HG := Aside0.mk hF'
        clear hF' hb7 hR2 HO HX HB HF
        go_wp2_with fail
        refine (bytes_calls _ HF7.out).mono ?_
        rintro e w8 ⟨g1, c8, rfl, hg1, hr1, hb8⟩
        have HG8 := Aside0.mk (HG.out.below hb8)
        have HB8 := Aside0.mk (below_step HB7.out hb8)
        have HR1 := Aside0.mk hr1
        clear hb8 hr1 HF7 HG HB7
        go_wp2_with fail
        refine (bytes_calls _ HG8.out).mono ?_
        rintro e w9 ⟨g2, c9, rfl, hg2, hr2, hb9⟩
        have HB9 := Aside0.mk (below_step HB8.out hb9)
        have HR19 := Aside0.mk (HR1.out.below hb9)
        have HR2 := Aside0.mk hr2
        clear hb9 hr2 HR1 HG8 HB8
        have s1 : sizeOfF a.length = 8 := by unfold sizeOfF; split <;> omega
        have s2 : sizeOfF (a ++ b).length = 8 := by rw [List.length_append]; unfold sizeOfF; split <;> omega
        have e1 : (bloom a).length = 8 := (bloom_len a).trans s1
        have e2 : (bloom (a ++ b)).length = 8 := (bloom_len (a ++ b)).trans s2
        have HM := Aside0.mk (fun (i : Nat) (x y : Int) (hx : (bloom a)[i]? = some x) (hy : (bloom (a ++ b))[i]? = some y) => bloom_more (s1.trans s2.symm) hx hy)
        rw [e1, e2]
        generalize bloom a = xs at HR19 e1 HM
        generalize bloom (a ++ b) = ys at HR2 e2 HM
        have hcap1 := HR19.out.le
        have hcap2 := HR2.out.le
        rw [e1] at hcap1
        rw [e2] at hcap2
        clear hw0 t1 t2 s1 s2
        go_wp2_with fail
        go_loopw [12] (fun v12 wr => ∃ i : Nat, v12 = .int .i64 i ∧ i ≤ 8 ∧ Aside0 (Below w9.heap.size w9 wr)) (fun v12 _ => 8 - (intOf v12).toNat)
        case atStart => exact ⟨0, rfl, by omega, Aside0.mk (Below.refl _ _)⟩
        case round =>
          obtain ⟨i, rfl, hi, HZ⟩ := hrel
          by_cases hlt : i < 8
          · have t1 : decide ((i : Int) < 8) = true := decide_eq_true (by omega)
            have t2 : decide (i < 8) = true := decide_eq_true hlt
            obtain ⟨x, hx⟩ : ∃ x, xs[i]? = some x := ⟨_, List.getElem?_eq_getElem (by omega)⟩
            obtain ⟨y, hy⟩ : ∃ y, ys[i]? = some y := ⟨_, List.getElem?_eq_getElem (by omega)⟩
            have hz := HM.out i x y hx hy
            have q1 := (HR19.out.below HZ.out).cell hx
            have q2 := (HR2.out.below HZ.out).cell hy
            clear hx hy e1 e2
            go_wp2_with fail
            go_region
            go_wp2
            go_roundw
            case rel => exact ⟨i + 1, by go_num, by omega, Aside0.mk (below_drew HZ.out)⟩
            case measure => simp [intOf]; omega
          · have t1 : decide ((i : Int) < 8) = false := decide_eq_false (by omega)
            have t2 : decide (i < 8) = false := decide_eq_false hlt
            go_wp2
            go_ret
            exact ⟨rfl, below_step HB9.out HZ.out⟩
end Go.Proofs.Yteeimkafcadinaa.X
