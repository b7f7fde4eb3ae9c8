/- slices.Clone of a row of points, walked. -/
import Derived.Test.YtfamnbejimbenaaConc
import Derived.Test.YtfamnbejimbenaaHs
set_option linter.unusedVariables false
set_option linter.unusedSimpArgs false
namespace Go.Proofs.Ytfamnbejimbenaa.X
open Go.RowKit Go.Sort Go.Proofs.Ytfamnbejimbenaa.G Go.Proofs.YtfamnbejimbenaaW.PrintWords Go.Proofs.YtfamnbejimbenaaW.PrintLast Go.Proofs.YtfamnbejimbenaaW.PrintMore
theorem Hv.of_R {w : World} {B : Nat} {ok : Nat → Prop} {v : Value} {x : List S24} (h : Kd.R k24 24 w B ok v x) (hx : x ≠ []) : Hv w B w.heap.size v x := by
  rcases row_of_R h with ⟨_, e⟩ | ⟨g, cap, rfl, hb, hr⟩
  · exact absurd e hx
  · have hlt := hr.lt
    have hle := hr.le.1
    have hc := fun (i : Nat) (p : S24) (hi : x[i]? = some p) => hr.cell hi
    obtain ⟨cur, hh, _⟩ := hr
    exact ⟨g, 0, cap, rfl, hle, ⟨hb, hlt⟩, ⟨cur, _, hh⟩, fun i p hi => by simpa using hc i p hi⟩
set_option maxHeartbeats 1000000 in
theorem clone24_calls (A : Option Addr) (c : Nat) (xs : List S24) (w : World) (hx : xs ≠ []) (hn : xs.length ≤ 1000000) (hC : Kd.C k24 w A xs.length xs) :
    Calls Try.prog 24 #[.slice A xs.length c] w fun e w' => ∃ v : Value, e = .returned v ∧ Kd.R k24 24 w' w.heap.size (fun _ => True) v xs ∧ Below w.heap.size w w' := by
  obtain ⟨ad, rfl, _⟩ := at_T24 hC 0 (by omega) (by have := List.length_pos_iff.2 hx; omega)
  have hq := fun (W : World) => Lib.run_eql_slice_nil (P := Try.prog) W 29 24 (some ad) xs.length c 0 0 Try.underlying29
  have HR0 := Aside0.mk hC
  have HB := Aside0.mk (Below.refl w.heap.size w)
  have HN := Aside0.mk hn
  clear hC hn
  go_enter Try.func24, Try.ntmps24
  go_wp2_with (first | ((with_reducible refine gate_dst (N := 5) rfl ?_); refine Kd.R_lit k24 _ 24 ?hg (N := 5) ?hd (xs := ([] : List S24)) (inner := []) (ok := fun _ => True) (okp := fun _ => True) ?hr ?hp (fun _ hk => hk) trivial (Below.refl _ _) (Nat.le_refl _) (by simp) ?_; (case hd => rfl); (case hg => rfl); (case hr => first | (go_simp; done) | (go_simp; rfl)); (case hp => exact (Reps.none _ _)); intro v261 w4 ho5 hb hg_ hnew_; clear hg_ hnew_; have n0_ := Aside0.mk (Kd.R_lower ho5 (below_size (by repeat (first | (with_reducible first | exact HB.out | apply below_alloc | apply pw_below_drewN | apply below_drew1) | exact HB.out)))); have n1_ := Aside0.mk (below_step (by repeat (first | (with_reducible first | exact HB.out | apply below_alloc | apply pw_below_drewN | apply below_drew1) | exact HB.out)) hb); clear HB; have HO262 := n0_; have HB := n1_; clear n0_ n1_; clear hb ho5) | ((with_reducible refine gate_builtin (b := .append) (xs := #[.tmp 5, .tmp 6]) rfl ?_); at_builtin; refine Kd.R_append_rows k24 (w0 := w) w.heap.size rfl (.tmp 5) (.tmp 6) 29 24 (.agg #[(.int .i64 0), (.int .u64 0), (.int .u64 0)]) 24 rfl Try.underlying29 info24 rfl (by decide) (by decide) v261 [] xs (some ad) xs.length c (fun _ => True) (fun _ => False) rfl rfl ?aO ?aR (fun _ _ h => h) (fun _ h => h.elim) ?aF ?aB ?aS ?aL ?_; (case aR => repeat (first | exact (Kd.C_below HR0.out HB.out) | (with_reducible refine Kd.C_alloc ?_ _) | (with_reducible refine Kd.C_drewN ?_ _) | (with_reducible refine Kd.C_drew ?_))); (case aB => exact (by repeat (first | (with_reducible first | exact HB.out | apply below_alloc | apply pw_below_drewN | apply below_drew1) | exact HB.out))); (case aF => exact (fun _ _ => trivial)); (case aO => exact (by (with_reducible repeat (first | apply Kd.R_alloc | apply Kd.R_drewN | apply Kd.R_drew)); exact HO262.out)); (case aS => exact (below_size (by repeat (first | (with_reducible first | exact HB.out | apply below_alloc | apply pw_below_drewN | apply below_drew1) | exact HB.out)))); (case aL => have := HN.out; simp; omega); intro v264 w6 ho hb hg hat; have n0_ := Aside0.mk (hb); have n1_ := Aside0.mk (ho); clear HB; clear HO262; have HB := n0_; have HO265 := n1_; clear n0_ n1_; clear ho hb hg hat))
  go_ret
  exact ⟨_, rfl, HO265.out, HB.out⟩
end Go.Proofs.Ytfamnbejimbenaa.X
