/- The reference's Send, walked. -/
import Derived.Test.YtgknafhpfghbjaaModel
import Derived.Deep.RegionLaw
namespace Go.Proofs.Ytgknafhpfghbjaa.X
open Go.RowKit Go.Proofs.Ytgknafhpfghbjaa.B Go.Proofs.Ytgknafhpfghbjaa Go.Proofs.YtgknafhpfghbjaaW.PrintWords Go.Proofs.YtgknafhpfghbjaaW.PrintLast Go.Proofs.YtgknafhpfghbjaaW.PrintMore

theorem refcopied_calls (f t : Int) (A : Option Addr) (c : Nat) (xs : List Int) (w : World) (hn : xs.length < 8796093022208) (hc : xs.length ≤ c) (hC : Kd.C (Kd.int .u8) w A xs.length xs) :
    Calls Try.prog 23 #[.agg #[.int .i64 f, .int .i64 t, .slice A xs.length c]] w fun e w' => ∃ v : Value, e = .returned (.agg #[.int .i64 f, .int .i64 t, v]) ∧ Kd.R (Kd.int .u8) 5 w' w.heap.size (fun _ => True) v xs ∧ Below w.heap.size w w' := by
  refine thermographref02_copied.calls f t A c xs f t xs w hC hc ?_
  unfold thermographref02_copied.f
  simp only [Option.bind_some, List.length_nil, Nat.zero_add, List.nil_append]
  rw [if_pos (by omega)]
set_option maxHeartbeats 4000000 in
theorem refsend_calls {w : World} {base g : Nat} {ok : Nat → Prop} {v : Value} {xs : List S32} (hN : Net 49 w base g ok v xs) (hbase : base ≤ w.heap.size) (hfresh : ∀ k, w.heap.size ≤ k → ok k)
    (f t : Int) (Ad : Option Addr) (cd : Nat) (ds : List Int) (hn : ds.length ≤ 9223372036854775807) (hcd : ds.length ≤ cd) (hC : Kd.C (Kd.int .u8) w Ad ds.length ds) :
    Calls Try.prog 17 #[.pointer (some ⟨g, 0, none⟩), .int .i64 f, .int .i64 t, .slice Ad ds.length cd] w fun e w' => e = .returned (.int .i64 (sendE xs ds)) ∧ NPost 49 w w' base g ok v (sendL xs f t ds) := by
  have hle := hN.le
  have hcell := hN.cell
  by_cases hd : 32768 < ds.length
  · have t1 : decide (32768 < (ds.length : Int)) = true := decide_eq_true (by omega)
    have t2 : decide (32768 < ds.length) = true := decide_eq_true hd
    have hp := Aside0.mk (hN.post_same hbase (Below.refl _ _))
    have he : sendE xs ds = 1 := if_pos hd
    have hl : sendL xs f t ds = xs := if_pos hd
    rw [he, hl]
    clear hN hC he hl hcell
    go_enter Try.func17, Try.ntmps17
    go_wp2
    go_ret
    exact ⟨rfl, hp.out⟩
  · have t1 : decide (32768 < (ds.length : Int)) = false := decide_eq_false (by omega)
    have t2 : decide (32768 < ds.length) = false := decide_eq_false hd
    obtain ⟨A, c, hv, hlc, _⟩ := hN.row.reads
    by_cases hf : xs.length = 256
    · have t3 : ((xs.length : Int) == 256) = true := by simp; omega
      have t4 : decide ((xs.length : Int) = 256) = true := decide_eq_true (by omega)
      have hp := Aside0.mk (hN.post_same hbase (Below.refl _ _))
      have he : sendE xs ds = 12 := by unfold sendE; rw [if_neg hd, if_pos hf]
      have hl : sendL xs f t ds = xs := by unfold sendL; rw [if_neg hd, if_pos hf]
      rw [he, hl]
      subst hv
      have hf' : (xs.length : Int) = 256 := by omega
      clear hN hC he hl hf
      go_enter Try.func17, Try.ntmps17
      go_wp2
      go_ret
      exact ⟨rfl, hp.out⟩
    · have t3 : ((xs.length : Int) == 256) = false := by simp; omega
      have t4 : decide ((xs.length : Int) = 256) = false := decide_eq_false (by omega)
      have he : sendE xs ds = 0 := by unfold sendE; rw [if_neg hd, if_neg hf]
      have hl : sendL xs f t ds = xs ++ [⟨f, t, ds⟩] := by unfold sendL; rw [if_neg hd, if_neg hf]
      rw [he, hl]
      have hlt : xs.length + 1 ≤ 256 := by omega
      have HC := Aside0.mk hC
      have HN := Aside0.mk hN
      have HF := Aside0.mk hfresh
      have HV := Aside0.mk hv
      subst hv
      clear hN hC he hl hfresh hf
      have tk1 : True := trivial
      go_enter Try.func17, Try.ntmps17
      go_wp2_with fail
      go_region_law (first | (clear tk1; refine goes_ Try.func23 (by kernel_rfl) rfl #[.agg #[.int .i64 f, .int .i64 t, .slice Ad ds.length cd]] (by rfl) rfl rfl (by simp only [List.map_toArray, List.map_cons, List.map_nil]; rfl) ?_; refine (refcopied_calls f t Ad cd ds _ (by omega) hcd (Kd.C_below HC.out (below_drew (Below.refl _ _)))).mono ?_; rintro e w1 ⟨v1, rfl, hv1, hb1⟩; refine ⟨_, rfl, ?_⟩; obtain ⟨A1, c1, rfl, hl1, _⟩ := Kd.R_reads hv1; have hb1' := below_step (below_drew (Below.refl w.heap.size w)) hb1; have hcell1 := (HN.out.below hb1').cell; have hcell1a := ((HN.out.below hb1').alloc (.cells #[.int .i64 f, .int .i64 t, .slice A1 ds.length c1] 32)).cell; have HB1 := Aside0.mk hb1'; have HV1 := Aside0.mk hv1; clear hb1 hb1' hv1; have tk2 : True := trivial) | (clear tk2; obtain ⟨v2, w2, hr, hR, hg, hat⟩ := prow_append_run (W := w1) base ok (fun k => w.heap.size ≤ k) (.slice A xs.length c) xs ⟨f, t, ds⟩ [.int .i64 f, .int .i64 t, .slice A1 ds.length c1] 47 (k32_mkM _ _ _ _ (Kd.R_lower (Kd.R_mono (Kd.R_bound HV1.out) (fun k hk => hk.2.1)) hbase)) (fun k hk => ⟨HF.out k hk, fun he => by have := (HN.out.row.own k he.symm).2.2.1; omega⟩) (fun k hk => HF.out k (Nat.le_trans HB1.out.size hk)) (HN.out.below HB1.out).row (Nat.le_trans hbase HB1.out.size) (by omega); obtain ⟨A2, c2, rfl, _, _⟩ := Kd.R_reads hR; refine step_of_run (by rfl) (.tmp 22) (.tmp 28) 47 rfl rfl rfl hr ?_; have hbx := HN.out.box_grown HB1.out hg; have hcell2 := (blk_cell hbx 0).trans rfl; have hfree2 := blk_frozen hbx 0; have HP := Aside0.mk (HN.out.post_add hbase HB1.out hR hg hat hlt (Nat.le_of_not_lt hd)); clear hr hR hg hat hbx))
      all_goals
        go_simp
        go_wp2
        go_ret
        exact ⟨rfl, by have h := HP.out; rwa [List.length_append, List.length_singleton] at h⟩
end Go.Proofs.Ytgknafhpfghbjaa.X
