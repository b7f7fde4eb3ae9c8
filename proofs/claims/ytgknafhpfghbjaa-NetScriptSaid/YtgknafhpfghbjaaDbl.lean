/- Double of the net, walked. -/
import Derived.Test.YtgknafhpfghbjaaDrop
set_option linter.unusedVariables false
namespace Go.Proofs.Ytgknafhpfghbjaa.X
open Go.RowKit Go.Proofs.Ytgknafhpfghbjaa.B Go.Proofs.Ytgknafhpfghbjaa Go.Proofs.YtgknafhpfghbjaaW.PrintWords Go.Proofs.YtgknafhpfghbjaaW.PrintLast Go.Proofs.YtgknafhpfghbjaaW.PrintMore

set_option maxHeartbeats 4000000 in
theorem double_calls {w : World} {base g : Nat} {ok : Nat → Prop} {v : Value} {xs : List S32} (hN : Net 51 w base g ok v xs) (hbase : base ≤ w.heap.size) (hfresh : ∀ k, w.heap.size ≤ k → ok k) (i : Int) :
    Calls Try.prog 14 #[.pointer (some ⟨g, 0, none⟩), .int .i64 i] w fun e w' => e = .returned (.int .i64 (dblE xs i)) ∧ NPost 51 w w' base g ok v (dblL xs i) := by
  have hle := hN.le
  have hcell := hN.cell
  cases hi : isAt xs i with
  | false =>
    have he : dblE xs i = 11 := by simp [dblE, hi]
    have hl : dblL xs i = xs := by simp [dblL, hi]
    rw [he, hl]
    have hp := Aside0.mk (hN.post_same hbase (Below.refl _ _))
    obtain ⟨A, c, hv, hlc, _⟩ := hN.row.reads
    subst hv
    clear hN he hl
    rcases isAt_false.1 hi with h | ⟨h0, h1⟩
    · have t1 : decide (i < 0) = true := decide_eq_true h
      clear hi
      go_enter Try.func14, Try.ntmps14
      go_wp2
      go_ret
      exact ⟨rfl, hp.out⟩
    · have t1 : decide (i < 0) = false := decide_eq_false (by omega)
      have t2 : decide ((xs.length : Int) ≤ i) = true := decide_eq_true h1
      clear hi
      go_enter Try.func14, Try.ntmps14
      go_wp2
      go_ret
      exact ⟨rfl, hp.out⟩
  | true =>
    obtain ⟨h0, h1⟩ := isAt_true.1 hi
    have t1 : decide (i < 0) = false := decide_eq_false (by omega)
    have t2 : decide ((xs.length : Int) ≤ i) = false := decide_eq_false (by omega)
    by_cases hf : xs.length = 256
    · have t3 : ((xs.length : Int) == 256) = true := by simp; omega
      have t4 : decide ((xs.length : Int) = 256) = true := decide_eq_true (by omega)
      have he : dblE xs i = 12 := by simp [dblE, hi, hf]
      have hl : dblL xs i = xs := by simp [dblL, hi, hf]
      rw [he, hl]
      have hp := Aside0.mk (hN.post_same hbase (Below.refl _ _))
      obtain ⟨A, c, hv, hlc, _⟩ := hN.row.reads
      subst hv
      have hf' : (xs.length : Int) = 256 := by omega
      clear hN he hl hf hi
      go_enter Try.func14, Try.ntmps14
      go_wp2
      go_ret
      exact ⟨rfl, hp.out⟩
    · have t3 : ((xs.length : Int) == 256) = false := by simp; omega
      have t4 : decide ((xs.length : Int) = 256) = false := decide_eq_false (by omega)
      have he : dblE xs i = 0 := by simp [dblE, hi, hf]
      have hl : dblL xs i = xs ++ [rd_T32 xs i] := by simp [dblL, hi, hf]
      rw [he, hl]
      have hlt : xs.length + 1 ≤ 256 := by omega
      have hs := hN.small _ (rd_mem hi)
      obtain ⟨ad, c, u, hv, e0, e1, e2, hu⟩ := hN.at_ i h0 h1
      obtain ⟨A1, c1, hu1, hl1, hC1⟩ := Kd.R_reads hu
      subst hu1
      have HC := Aside0.mk hC1
      have HN := Aside0.mk hN
      have HF := Aside0.mk hfresh
      subst hv
      clear hN hC1 hu he hl hfresh hf hi
      generalize rd_T32 xs i = x at e0 e1 e2 hs HC hl1 ⊢
      have tk1 : True := trivial
      go_enter Try.func14, Try.ntmps14
      go_wp2_with fail
      go_region_law (first | (clear tk1; refine goes_ Try.func22 (by kernel_rfl) rfl #[.agg #[.int .i64 x.f0, .int .i64 x.f1, .slice A1 x.f2.length c1]] (by rfl) rfl rfl (by simp only [List.map_toArray, List.map_cons, List.map_nil]; rfl) ?_; refine (copied_calls x.f0 x.f1 A1 c1 x.f2 _ (by omega) (Kd.C_below HC.out (below_drew (Below.refl _ _)))).mono ?_; rintro e w1 ⟨v1, rfl, hv1, hb1⟩; refine ⟨_, rfl, ?_⟩; obtain ⟨A3, c3, rfl, hl3, _⟩ := Kd.R_reads hv1; have hb1' := below_step (below_drew (Below.refl w.heap.size w)) hb1; have hcell1 := (HN.out.below hb1').cell; have hcell1a := ((HN.out.below hb1').alloc (.cells #[.int .i64 x.f0, .int .i64 x.f1, .slice A3 x.f2.length c3] 32)).cell; have HB1 := Aside0.mk hb1'; have HV1 := Aside0.mk hv1; clear hb1 hb1' hv1 e0 e1 e2; have tk2 : True := trivial) | (clear tk2; obtain ⟨v2, w2, hr, hR, hg, hat⟩ := prow_append_run (W := w1) base ok (fun k => w.heap.size ≤ k) (.slice (some ad) xs.length c) xs x [.int .i64 x.f0, .int .i64 x.f1, .slice A3 x.f2.length c3] 47 (k32_mkM _ _ _ _ (Kd.R_lower (Kd.R_mono (Kd.R_bound HV1.out) (fun k hk => hk.2.1)) hbase)) (fun k hk => ⟨HF.out k hk, fun he => by have := (HN.out.row.own k he.symm).2.2.1; omega⟩) (fun k hk => HF.out k (Nat.le_trans HB1.out.size hk)) (HN.out.below HB1.out).row (Nat.le_trans hbase HB1.out.size) (by omega); obtain ⟨A2, c2, rfl, _, _⟩ := Kd.R_reads hR; refine step_of_run (by rfl) (.tmp 28) (.tmp 37) 47 rfl rfl rfl hr ?_; have hbx := HN.out.box_grown HB1.out hg; have hcell2 := (blk_cell hbx 0).trans rfl; have hfree2 := blk_frozen hbx 0; have HP := Aside0.mk (HN.out.post_add hbase HB1.out hR hg hat hlt hs); clear hr hR hg hat hbx))
      all_goals
        go_simp
        go_wp2
        go_ret
        exact ⟨rfl, by have h := HP.out; rwa [List.length_append, List.length_singleton] at h⟩
end Go.Proofs.Ytgknafhpfghbjaa.X
