/- What slices.Clone and slices.SortFunc do with a row of ranges of the call's own. -/
import Derived.Test.YthdieelceafidaaDel
import Derived.Test.YthdieelceafidaaSortLay
namespace Go.Proofs.Ythdieelceafidaa.X
open Go.RowKit Go.Shelf Go.Sort Go.Proofs.Ythdieelceafidaa.G Go.Proofs.YthdieelceafidaaW.PrintWords Go.Proofs.YthdieelceafidaaW.PrintLast Go.Proofs.YthdieelceafidaaW.PrintMore

def byFrom (x y : S24) : Int := if x.f0 < y.f0 then -1 else if x.f0 > y.f0 then 1 else 0
set_option maxHeartbeats 1000000 in
theorem byFrom_calls (x y : S24) (W : World) : Calls Try.prog 26 #[.agg #[.int .i64 x.f0, .int .i64 x.f1], .agg #[.int .i64 y.f0, .int .i64 y.f1]] W fun e w' => e = .returned (.int .i64 (byFrom x y)) ∧ ∃ q os', w' = grow (W.drewN q) os' := by
  have hlt : byFrom x y = -1 ∧ x.f0 < y.f0 ∨ byFrom x y = 0 ∧ x.f0 = y.f0 ∨ byFrom x y = 1 ∧ y.f0 < x.f0 := by unfold byFrom; omega
  rcases hlt with ⟨e, h⟩ | ⟨e, h⟩ | ⟨e, h⟩
  · rw [e]
    clear e
    have hne : (x.f0 == y.f0) = false := by rw [beq_eq_false_iff_ne]; omega
    go_enter Try.func26, Try.ntmps26
    go_wp2
    repeat (go_quiet (fail); try go_wp2)
    go_ret
    exact ⟨rfl, 0, _, by rw [alloc_eq_grow, alloc_eq_grow, grow_grow]; rfl⟩
  · rw [e, h]
    clear e h
    go_enter Try.func26, Try.ntmps26
    go_wp2
    repeat (go_quiet (fail); try go_wp2)
    go_ret
    exact ⟨rfl, 0, _, by rw [alloc_eq_grow, alloc_eq_grow, grow_grow]; rfl⟩
  · rw [e]
    clear e
    have hne : (x.f0 == y.f0) = false := by rw [beq_eq_false_iff_ne]; omega
    go_enter Try.func26, Try.ntmps26
    go_wp2
    repeat (go_quiet (fail); try go_wp2)
    go_ret
    exact ⟨rfl, 0, _, by rw [alloc_eq_grow, alloc_eq_grow, grow_grow]; rfl⟩
theorem ltFrom (x y : S24) : ltOf byFrom x y = decide (x.f0 < y.f0) := by
  unfold ltOf byFrom
  by_cases h1 : x.f0 < y.f0
  · simp [h1]
  · by_cases h2 : x.f0 > y.f0 <;> simp [h1, h2]
theorem swoFrom : SWO (ltOf byFrom) where
  irrefl x := by rw [ltFrom]; simp
  trans x y z h1 h2 := by rw [ltFrom] at *; simp at *; omega
  ntrans x y z h1 h2 := by rw [ltFrom] at *; simp at *; omega
theorem sortFunc_calls (g0 cap : Nat) (xs : List S24) (w : World) (hR : Row w g0 cap xs) (hcap : xs.length < 4611686018427387904) :
    Calls Try.prog 25 #[.slice (some ⟨g0, 0, none⟩) xs.length cap, .func (.func 26) #[] #[]] w fun e w' => e = .returned (.tuple #[]) ∧ ∃ ys : List S24, ys.length = xs.length ∧ ys.Perm xs ∧ ys.Pairwise (fun a b => a.f0 ≤ b.f0) ∧ Row w' g0 cap ys ∧ w.grownBy w' (some g0) := by
  have eg : ∀ args w, (callFunc 26 args).run Try.prog w = .ok (.enter 26 args) w := enters_of Try.func26 (by kernel_rfl) rfl
  have hcon := AnyQ.slices_SortFunc Try.sortL 2 Try.isAgg24 Try.sizeOf24 encR (fun _ => rfl) (fun x v hv => by simp [encR] at hv; rcases hv with rfl | rfl <;> rfl) byFrom swoFrom 26 #[] g0 0 cap xs.toArray w eg
    (fun _ _ _ _ x y => byFrom_calls x y _) (holds_of_row hR) hR.lt (by simpa using hcap)
  change Calls Try.prog 25 _ _ _ at hcon
  rw [show xs.toArray.size = xs.length by simp] at hcon
  refine hcon.mono ?_
  rintro e w' ⟨rfl, d', n, os, hp, hs, rfl⟩
  have hsz : d'.size = xs.length := by rw [hp.1]; simp
  obtain ⟨r1, r2⟩ := row_sorted hR n d' os hsz
  refine ⟨rfl, d'.toList, by simpa using hsz, ?_, ?_, r1, r2⟩
  · have h := hp.2.2
    have e1 : d'.extract 0 xs.length = d' := by rw [← hsz]; simp
    have e2 : xs.toArray.extract 0 xs.length = xs.toArray := by simp
    rw [e1, e2] at h
    simpa using h
  · rw [List.pairwise_iff_getElem]
    intro i j hi hj hij
    have hi' : i < d'.size := by simpa using hi
    have hj' : j < d'.size := by simpa using hj
    have h := hs i j (Nat.zero_le _) hij (by omega)
    rw [ltFrom, getElem!_pos d' j hj', getElem!_pos d' i hi'] at h
    simpa using h
theorem sortFunc_none (p : Option Addr) (cap : Nat) (fv : Value) (w : World) : Calls Try.prog 25 #[.slice p 0 cap, fv] w fun e w' => e = .returned (.tuple #[]) ∧ w' = w :=
  AnyF.slices_SortFunc_none { Try.sortL with } p cap fv w
theorem clone_nil (c : Nat) (w : World) : Calls Try.prog 23 #[.slice none 0 c] w fun e w' => e = .returned (.slice none 0 0) ∧ Below w.heap.size w w' := by
  have hq := @Lib.run_eql_slice_nil Try.prog
  go_enter Try.func23, Try.ntmps23
  go_wp2
  go_ret
  exact ⟨rfl, Below.refl _ _⟩
set_option maxHeartbeats 1000000 in
theorem clone_some (ad : Addr) (c : Nat) (xs : List S24) (w : World) (hn : xs.length < 8796093022208) (hC : Kd.C k24 w (some ad) xs.length xs) :
    Calls Try.prog 23 #[.slice (some ad) xs.length c] w fun e w' => ∃ v : Value, e = .returned v ∧ Kd.R k24 24 w' w.heap.size (fun _ => True) v xs ∧ Below w.heap.size w w' := by
  have hq := fun (W : World) => Lib.run_eql_slice_nil (P := Try.prog) W 22 24 (some ad) xs.length c 0 0 Try.underlying22
  have HR0 := Aside0.mk hC
  have HB := Aside0.mk (Below.refl w.heap.size w)
  have HN := Aside0.mk hn
  clear hC hn
  go_enter Try.func23, Try.ntmps23
  go_wp2_with (first | ((with_reducible refine gate_dst (N := 5) rfl ?_); refine Kd.R_lit k24 _ 24 ?hg (N := 5) ?hd (xs := ([] : List (S24))) (inner := []) (ok := fun _ => True) (okp := fun _ => True) ?hr ?hp (fun _ hk => hk) trivial (Below.refl _ _) (Nat.le_refl _) (by simp) ?_; (case hd => rfl); (case hg => rfl); (case hr => first | (go_simp; done) | (go_simp; rfl)); (case hp => exact (Reps.none _ _)); intro v261 w4 ho5 hb hg_ hnew_; clear hg_ hnew_; have n0_ := Aside0.mk (Kd.R_lower ho5 (below_size (by repeat (first | (with_reducible first | exact HB.out | apply below_alloc | apply pw_below_drewN | apply below_drew1) | exact HB.out)))); have n1_ := Aside0.mk (below_step (by repeat (first | (with_reducible first | exact HB.out | apply below_alloc | apply pw_below_drewN | apply below_drew1) | exact HB.out)) hb); clear HB; have HO262 := n0_; have HB := n1_; clear n0_ n1_; clear hb ho5) | ((with_reducible refine gate_builtin (b := .append) (xs := #[.tmp 5, .tmp 6]) rfl ?_); at_builtin; refine Kd.R_append_rows k24 (w0 := w) w.heap.size rfl (.tmp 5) (.tmp 6) 22 24 (.agg #[(.int .i64 0), (.int .i64 0)]) 16 rfl Try.underlying22 info24 rfl (by decide) (by omega) v261 [] xs _ _ _ (fun _ => True) (fun _ => False) rfl rfl ?aO ?aR (fun _ _ h => h) (fun _ h => h.elim) ?aF ?aB ?aS ?aL ?_; (case aR => repeat (first | exact (Kd.C_below HR0.out HB.out) | (with_reducible refine Kd.C_alloc ?_ _) | (with_reducible refine Kd.C_drewN ?_ _) | (with_reducible refine Kd.C_drew ?_))); (case aB => exact (by repeat (first | (with_reducible first | exact HB.out | apply below_alloc | apply pw_below_drewN | apply below_drew1) | exact HB.out))); (case aF => exact (fun _ _ => trivial)); (case aO => exact (by (with_reducible repeat (first | apply Kd.R_alloc | apply Kd.R_drewN | apply Kd.R_drew)); exact HO262.out)); (case aS => exact (below_size (by repeat (first | (with_reducible first | exact HB.out | apply below_alloc | apply pw_below_drewN | apply below_drew1) | exact HB.out)))); (case aL => have := HN.out; simp; omega); intro v264 w6 ho hb hg hat; have n0_ := Aside0.mk (hb); have n1_ := Aside0.mk (ho); clear HB; clear HO262; have HB := n0_; have HO265 := n1_; clear n0_ n1_; clear ho hb hg hat))
  go_ret
  exact ⟨_, rfl, HO265.out, HB.out⟩
end Go.Proofs.Ythdieelceafidaa.X
