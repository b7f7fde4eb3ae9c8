/- The plain Lean functions of the seat's Go functions and, for each, that the Go call does what it does; written by a program of this session after the kit's print. -/
import Derived.Test.YthdieelceafidaaGx0
import Derived.Test.YthdieelceafidaaGx1
import Derived.Test.YthdieelceafidaaGx3
import Derived.Test.YthdieelceafidaaAdd
import Derived.Test.YthdieelceafidaaNormal
namespace Go.Proofs.Ythdieelceafidaa.X
end Go.Proofs.Ythdieelceafidaa.X
namespace Go.Proofs.Ythdieelceafidaa.G
open Go.Proofs.Ythdieelceafidaa.X
open Go.RowKit Go.Proofs.YthdieelceafidaaW.PrintWords Go.Proofs.YthdieelceafidaaW.PrintLast Go.Proofs.YthdieelceafidaaW.PrintMore
attribute [local go_sem] max2_int min2_int max_two min_two max_three min_three max_four min_four   -- for this text's walks alone
set_option linter.unusedVariables false
set_option linter.unusedSimpArgs false

attribute [local go_sem high] eqA24
/-! ### thermographref16_Normal: function 10 -/
def thermographref16_Normal.l0 : Nat → List (S24) → List (S24) → Int → Option ((List (S24)))
  | 0, _, _, _ => none
  | k + 1, x0, x3, x4 => if x4 < (x0.length : Int) then (if 0 ≤ x4 then ((thermographref16_add.f k x3 ((rd_T24 x0 x4).f0) ((rd_T24 x0 x4).f1)).bind fun t137 => (thermographref16_Normal.l0 k x0 t137 (wrap64 (x4 + 1)))) else (none)) else (some x3)
def thermographref16_Normal.f (k : Nat) (l0 : List (S24)) : Option ((List (S24))) := thermographref16_Normal.l0 k l0 (([] : List (S24))) 0
theorem thermographref16_Normal.mono_l : ∀ k, (∀ y0 y1 y2, LeO (thermographref16_Normal.l0 k y0 y1 y2) (thermographref16_Normal.l0 (k + 1) y0 y1 y2))
  | 0 => fun _ _ _ r h => by simp [thermographref16_Normal.l0] at h
  | k + 1 => by
    have ih0 := thermographref16_Normal.mono_l k
    · intro y0 y1 y2
      unfold thermographref16_Normal.l0
      repeat' first
      | (with_reducible exact ih0 _ _ _)
      | (with_reducible exact thermographref16_add.mono _ _ _ _)
      | (with_reducible exact LeO.refl _)
      | (with_reducible exact LeO.none _)
      | (with_reducible refine LeO.ite ?_ ?_)
      | (with_reducible refine LeO.bind ?_ (fun _ => ?_))
      | exact ih0 _ _ _
      | exact thermographref16_add.mono _ _ _ _
      | exact LeO.none _
      | refine LeO.ite ?_ ?_
      | refine LeO.bind ?_ (fun _ => ?_)
theorem thermographref16_Normal.mono : ∀ a0 k, LeO (thermographref16_Normal.f k a0) (thermographref16_Normal.f (k + 1) a0) := by
  intro a0 k
  have ih0 := thermographref16_Normal.mono_l k
  unfold thermographref16_Normal.f
  repeat' first
      | (with_reducible exact ih0 _ _ _)
      | (with_reducible exact thermographref16_add.mono _ _ _ _)
      | (with_reducible exact LeO.refl _)
      | (with_reducible exact LeO.none _)
      | (with_reducible refine LeO.ite ?_ ?_)
      | (with_reducible refine LeO.bind ?_ (fun _ => ?_))
      | exact ih0 _ _ _
      | exact thermographref16_add.mono _ _ _ _
      | exact LeO.none _
      | refine LeO.ite ?_ ?_
      | refine LeO.bind ?_ (fun _ => ?_)
set_option maxHeartbeats 8000000 in
set_option maxRecDepth 100000 in
theorem thermographref16_Normal.calls (k : Nat) (A0 : Option Addr) (c0 : Nat) (l0 : List (S24)) (r : List (S24)) (w : World) (hr0 : Kd.C k24 w A0 l0.length l0) (hc0 : l0.length ≤ c0) (h : thermographref16_Normal.f k l0 = some r) :
    Calls Try.prog 10 #[.slice A0 l0.length c0] w fun e w' => ∃ v0_ : Value, e = .returned (v0_) ∧ Kd.R k24 24 w' w.heap.size (fun _ => True) v0_ r ∧ Below w.heap.size w w' := by
  have hu24 := Try.underlying24
  have HR0 := Aside0.mk hr0
  have HC0 := Aside0.mk hc0
  clear hr0 hc0
  have HB := Aside0.mk (Below.refl w.heap.size w)
  have H : (thermographref16_Normal.l0 k l0 (([] : List (S24))) 0) = some r := h
  clear h
  obtain ⟨y133, hy133⟩ : ∃ y_ : List (S24), y_ = (([] : List (S24))) := ⟨_, rfl⟩
  replace H : (thermographref16_Normal.l0 k l0 y133 0) = some r := by first | (rw [hy133]; with_reducible exact H) | (have H2_ := (Option.bind_some _ _).symm.trans H; rw [hy133]; with_reducible exact H2_) | (have H2_ := (Option.bind_some _ _).symm.trans H; with_reducible exact H2_) | with_reducible exact H | (rw [hy133]; exact H) | exact H
  have Ny133 := Aside0.mk hy133
  clear hy133
  have H' := Aside0.mk H
  clear H
  go_enter Try.func10, Try.ntmps10
  go_wp2_with (first | ((with_reducible refine gate_dst (N := 5) rfl ?_); refine Kd.R_lit k24 _ 24 ?hg (N := 5) ?hd (xs := ([] : List (S24))) (inner := []) (ok := fun _ => True) (okp := fun _ => True) ?hr ?hp (fun _ hk => hk) trivial (Below.refl _ _) (Nat.le_refl _) (by simp) ?_; (case hd => rfl); (case hg => rfl); (case hr => first | (go_simp; done) | (go_simp; rfl)); (case hp => exact (Reps.none _ _)); intro v134 w2 ho3 hb hg_ hnew_; clear hg_ hnew_; (first | rw [← Ny133.out] at ho3 | (simp only [Int.reduceToNat] at ho3; rw [← Ny133.out] at ho3)); have n0_ := Aside0.mk (Kd.R_lower ho3 (below_size (by repeat (first | (with_reducible first | exact HB.out | apply below_alloc | apply pw_below_drewN | apply below_drew1) | exact HB.out)))); have n1_ := Aside0.mk (below_step (by repeat (first | (with_reducible first | exact HB.out | apply below_alloc | apply pw_below_drewN | apply below_drew1) | exact HB.out)) hb); clear HB; have HO135 := n0_; have HB := n1_; clear n0_ n1_; clear hb ho3))
  go_loopg [3, 4] k (fun kq v3 v4 w' => ∃ (x3_1 : List (S24)) (x4_1 : Int), v4 = .int .i64 x4_1 ∧ Aside0 (thermographref16_Normal.l0 kq l0 x3_1 x4_1 = some r) ∧ Aside0 (kq ≤ k) ∧ Aside0 (Kd.R k24 24 w' w.heap.size (fun _ => True) v3 x3_1) ∧ Aside0 (Below w.heap.size w w'))
  case atStart => exact ⟨(y133), (0), (by first | rfl | (simp; done) | (simp [*]; done)), H', ⟨Nat.le_refl _⟩, ⟨by (with_reducible repeat (first | apply Kd.R_alloc | apply Kd.R_drewN | apply Kd.R_drew)); exact HO135.out⟩, ⟨by repeat (first | (with_reducible first | exact HB.out | apply below_alloc | apply pw_below_drewN | apply below_drew1) | exact HB.out)⟩⟩
  case round =>
    clear H'
    try clear c1
    try clear p2
    obtain ⟨x3_1, x4_1, rfl, HA, HK1, HO_3, HB⟩ := hrel
    cases gk with
    | zero => exact absurd HA.out (by simp [thermographref16_Normal.l0])
    | succ k1 =>
      have H := HA.out
      clear HA
      simp only [thermographref16_Normal.l0] at H
      by_cases c4 : x4_1 < (l0.length : Int)
      · rw [if_pos c4] at H
        have c4b0 : decide (x4_1 < (l0.length : Int)) = true := decide_eq_true c4
        clear c4
        by_cases c5 : 0 ≤ x4_1
        · rw [if_pos c5] at H
          have c5b0 : decide (0 ≤ x4_1) = true := decide_eq_true c5
          clear c5
          replace H := Option.bind_eq_some_iff.mp H
          obtain ⟨t137, A60, H⟩ := H
          replace H : (thermographref16_Normal.l0 k1 l0 t137 (wrap64 (x4_1 + 1))) = some r := H
          have A6 := Aside0.mk A60
          clear A60
          have H' := Aside0.mk H
          clear H
          have p136 : 0 ≤ (x4_1 : Int) := of_decide_eq_true (by first | (with_reducible assumption) | assumption)
          have q136 : x4_1 < (l0.length : Int) := of_decide_eq_true (by first | (with_reducible assumption) | assumption)
          obtain ⟨ad136, e136, hx136_0, hx136_1⟩ := at_T24 HR0.out x4_1 p136 q136
          cases e136
          replace hx136_0 := (HB.out.cell (World.block_lt_of_cell? w _ hx136_0)).trans hx136_0
          replace hx136_1 := (HB.out.cell (World.block_lt_of_cell? w _ hx136_1)).trans hx136_1
          replace p136 := eq_true p136
          replace q136 := eq_true q136
          obtain ⟨Ao7, co7, eo7⟩ := Kd.R_slice HO_3.out
          subst eo7
          go_wp2_with (first | ((with_reducible refine gate_callee (f := 29) rfl ?_); refine goesL_ (some 17) rfl rfl Try.func29 (by kernel_rfl) rfl #[.slice Ao7 x3_1.length co7, .agg #[.int .i64 ((rd_T24 l0 x4_1).f0), .int .i64 ((rd_T24 l0 x4_1).f1)]] rfl (by (try simp only [List.map_toArray, List.map_cons, List.map_nil]); first | done | rfl | (simp only [List.length_drop, List.length_take]; rfl)) ?_; (with_reducible refine (thermographref16_add.calls k1 (fun k_ => some k_ = (.slice Ao7 x3_1.length co7 : Value).ownBlock) (.slice Ao7 x3_1.length co7) x3_1 ((rd_T24 l0 x4_1).f0) ((rd_T24 l0 x4_1).f1) t137 w _ ?side1 ?side2 A6.out).mono ?_); (case side1 => repeat (first | (with_reducible first | exact HB.out | apply below_alloc | apply pw_below_drewN | apply below_drew1) | exact HB.out)); (case side2 => exact Kd.R_tight rfl HO_3.out); rintro e w8 ⟨v138, rfl, ho0, hb, hkp⟩; refine ⟨_, rfl, ?_⟩; have n0_ := Aside0.mk (Kd.R_mono (ok' := fun k_ => True) ho0 (fun k_ hk_ => trivial)); have n1_ := Aside0.mk (hb); clear HB; clear HO_3; have HO139 := n0_; have HB := n1_; clear n0_ n1_; (try clear hb); (try clear hkp); (try clear ho0)))
          go_roundg k1
          case measure => have := HK1.out; omega
          case rel => exact ⟨(t137), (wrap64 (x4_1 + 1)), (by first | rfl | (simp; done) | (simp [*]; done)), H', ⟨by have := HK1.out; omega⟩, ⟨by (with_reducible repeat (first | apply Kd.R_alloc | apply Kd.R_drewN | apply Kd.R_drew)); exact HO139.out⟩, ⟨by repeat (first | (with_reducible first | exact HB.out | apply below_alloc | apply pw_below_drewN | apply below_drew1) | exact HB.out)⟩⟩
        · rw [if_neg c5] at H
          exact absurd H (by simp)
      · rw [if_neg c4] at H
        have c4b0 : decide (x4_1 < (l0.length : Int)) = false := decide_eq_false c4
        clear c4
        obtain rfl := Option.some.inj H
        go_wp2
        go_ret
        exact ⟨_, by first | rfl | (simp [errW_none, errW_some] <;> rfl) | (simp [*, errW_none, errW_some] <;> rfl), by (with_reducible repeat (first | apply Kd.R_alloc | apply Kd.R_drewN | apply Kd.R_drew)); exact HO_3.out, by repeat (first | (with_reducible first | exact HB.out | apply below_alloc | apply pw_below_drewN | apply below_drew1) | exact HB.out)⟩

/-! ### thermographlaw16_same: function 11 -/
def thermographlaw16_same.l0 : Nat → List (S24) → List (S24) → Int → Option (Bool)
  | 0, _, _, _ => none
  | k + 1, x0, x1, x5 => if x5 < (x0.length : Int) then (if 0 ≤ x5 then (if x5 < (x1.length : Int) then (if (!(((rd_T24 x0 x5).f0) == ((rd_T24 x1 x5).f0)) || (!(((rd_T24 x0 x5).f1) == ((rd_T24 x1 x5).f1)))) = true then (some false) else (thermographlaw16_same.l0 k x0 x1 (wrap64 (x5 + 1)))) else (none)) else (none)) else (some true)
def thermographlaw16_same.f (k : Nat) (l0 : List (S24)) (l1 : List (S24)) : Option (Bool) := if (l0.length : Int) = (l1.length : Int) then (thermographlaw16_same.l0 k l0 l1 0) else (some false)
theorem thermographlaw16_same.mono_l : ∀ k, (∀ y0 y1 y2, LeO (thermographlaw16_same.l0 k y0 y1 y2) (thermographlaw16_same.l0 (k + 1) y0 y1 y2))
  | 0 => fun _ _ _ r h => by simp [thermographlaw16_same.l0] at h
  | k + 1 => by
    have ih0 := thermographlaw16_same.mono_l k
    · intro y0 y1 y2
      unfold thermographlaw16_same.l0
      repeat' first
      | (with_reducible exact ih0 _ _ _)
      | (with_reducible exact LeO.refl _)
      | (with_reducible exact LeO.none _)
      | (with_reducible refine LeO.ite ?_ ?_)
      | (with_reducible refine LeO.bind ?_ (fun _ => ?_))
      | exact ih0 _ _ _
      | exact LeO.none _
      | refine LeO.ite ?_ ?_
      | refine LeO.bind ?_ (fun _ => ?_)
theorem thermographlaw16_same.mono : ∀ a0 a1 k, LeO (thermographlaw16_same.f k a0 a1) (thermographlaw16_same.f (k + 1) a0 a1) := by
  intro a0 a1 k
  have ih0 := thermographlaw16_same.mono_l k
  unfold thermographlaw16_same.f
  repeat' first
      | (with_reducible exact ih0 _ _ _)
      | (with_reducible exact LeO.refl _)
      | (with_reducible exact LeO.none _)
      | (with_reducible refine LeO.ite ?_ ?_)
      | (with_reducible refine LeO.bind ?_ (fun _ => ?_))
      | exact ih0 _ _ _
      | exact LeO.none _
      | refine LeO.ite ?_ ?_
      | refine LeO.bind ?_ (fun _ => ?_)
set_option maxHeartbeats 8000000 in
set_option maxRecDepth 100000 in
theorem thermographlaw16_same.calls (k : Nat) (A0 : Option Addr) (c0 : Nat) (l0 : List (S24)) (A1 : Option Addr) (c1 : Nat) (l1 : List (S24)) (r : Bool) (w : World) (hr0 : Kd.C k24 w A0 l0.length l0) (hc0 : l0.length ≤ c0) (hr1 : Kd.C k24 w A1 l1.length l1) (hc1 : l1.length ≤ c1) (h : thermographlaw16_same.f k l0 l1 = some r) :
    Calls Try.prog 11 #[.slice A0 l0.length c0, .slice A1 l1.length c1] w fun e w' => e = .returned (.bool r) ∧ Drawn0 w w' := by
  have hu24 := Try.underlying24
  have HR0 := Aside0.mk hr0
  have HC0 := Aside0.mk hc0
  clear hr0 hc0
  have HR1 := Aside0.mk hr1
  have HC1 := Aside0.mk hc1
  clear hr1 hc1
  have H : (if (l0.length : Int) = (l1.length : Int) then (thermographlaw16_same.l0 k l0 l1 0) else (some false)) = some r := h
  clear h
  by_cases c3 : (l0.length : Int) = (l1.length : Int)
  · rw [if_pos c3] at H
    have c3b0 : ((l0.length : Int) == (l1.length : Int)) = true := beq_iff_eq.mpr c3
    have c3b1 : ((l0.length : Int) != (l1.length : Int)) = false := bne_eq_false_iff_eq.mpr c3
    have c3b2 : (l0.length == l1.length) = true := by first | simpa using c3 | (simp at c3 ⊢; omega)
    clear c3
    have H' := Aside0.mk H
    clear H
    go_enter Try.func11, Try.ntmps11
    go_wp2
    repeat (go_quiet (fail); try go_wp2)
    go_loopg [5] k (fun kq v5 w' => ∃ (x5_1 : Int), v5 = .int .i64 x5_1 ∧ Aside0 (thermographlaw16_same.l0 kq l0 l1 x5_1 = some r) ∧ Aside0 (kq ≤ k) ∧ Drawn0 w w')
    case atStart => exact ⟨(0), (by first | rfl | (simp; done) | (simp [*]; done)), H', ⟨Nat.le_refl _⟩, by repeat (first | exact Drawn0.refl _ | apply Drawn0.step)⟩
    case round =>
      clear H'
      try clear c1
      try clear p2
      try clear c3
      try clear c3b0
      try clear c3b1
      try clear c3b2
      obtain ⟨x5_1, rfl, HA, HK1, ⟨m1, rfl⟩⟩ := hrel
      cases gk with
      | zero => exact absurd HA.out (by simp [thermographlaw16_same.l0])
      | succ k1 =>
        have H := HA.out
        clear HA
        simp only [thermographlaw16_same.l0] at H
        by_cases c4 : x5_1 < (l0.length : Int)
        · rw [if_pos c4] at H
          have c4b0 : decide (x5_1 < (l0.length : Int)) = true := decide_eq_true c4
          clear c4
          by_cases c5 : 0 ≤ x5_1
          · rw [if_pos c5] at H
            have c5b0 : decide (0 ≤ x5_1) = true := decide_eq_true c5
            clear c5
            by_cases c6 : x5_1 < (l1.length : Int)
            · rw [if_pos c6] at H
              have c6b0 : decide (x5_1 < (l1.length : Int)) = true := decide_eq_true c6
              clear c6
              by_cases c7 : (!(((rd_T24 l0 x5_1).f0) == ((rd_T24 l1 x5_1).f0)) || (!(((rd_T24 l0 x5_1).f1) == ((rd_T24 l1 x5_1).f1)))) = true
              · rw [if_pos c7] at H
                have c7b0 : (!(((rd_T24 l0 x5_1).f0) == ((rd_T24 l1 x5_1).f0)) || (!(((rd_T24 l0 x5_1).f1) == ((rd_T24 l1 x5_1).f1)))) = true := c7
                clear c7
                obtain rfl := Option.some.inj H
                have p140 : 0 ≤ (x5_1 : Int) := of_decide_eq_true (by first | (with_reducible assumption) | assumption)
                have q140 : x5_1 < (l0.length : Int) := of_decide_eq_true (by first | (with_reducible assumption) | assumption)
                obtain ⟨ad140, e140, hx140_0, hx140_1⟩ := at_T24 HR0.out x5_1 p140 q140
                cases e140
                replace p140 := eq_true p140
                replace q140 := eq_true q140
                have p141 : 0 ≤ (x5_1 : Int) := of_decide_eq_true (by first | (with_reducible assumption) | assumption)
                have q141 : x5_1 < (l1.length : Int) := of_decide_eq_true (by first | (with_reducible assumption) | assumption)
                obtain ⟨ad141, e141, hx141_0, hx141_1⟩ := at_T24 HR1.out x5_1 p141 q141
                cases e141
                replace p141 := eq_true p141
                replace q141 := eq_true q141
                go_wp2
                repeat (go_quiet (fail); try go_wp2)
                go_ret
                exact ⟨by first | rfl | (simp; done) | (simp [*]; done), by repeat (first | exact Drawn0.refl _ | apply Drawn0.step)⟩
              · rw [if_neg c7] at H
                have c7b0 : (!(((rd_T24 l0 x5_1).f0) == ((rd_T24 l1 x5_1).f0)) || (!(((rd_T24 l0 x5_1).f1) == ((rd_T24 l1 x5_1).f1)))) = false := by simpa using c7
                clear c7
                have H' := Aside0.mk H
                clear H
                have p140 : 0 ≤ (x5_1 : Int) := of_decide_eq_true (by first | (with_reducible assumption) | assumption)
                have q140 : x5_1 < (l0.length : Int) := of_decide_eq_true (by first | (with_reducible assumption) | assumption)
                obtain ⟨ad140, e140, hx140_0, hx140_1⟩ := at_T24 HR0.out x5_1 p140 q140
                cases e140
                replace p140 := eq_true p140
                replace q140 := eq_true q140
                have p141 : 0 ≤ (x5_1 : Int) := of_decide_eq_true (by first | (with_reducible assumption) | assumption)
                have q141 : x5_1 < (l1.length : Int) := of_decide_eq_true (by first | (with_reducible assumption) | assumption)
                obtain ⟨ad141, e141, hx141_0, hx141_1⟩ := at_T24 HR1.out x5_1 p141 q141
                cases e141
                replace p141 := eq_true p141
                replace q141 := eq_true q141
                go_wp2
                repeat (go_quiet (fail); try go_wp2)
                go_roundg k1
                case measure => have := HK1.out; omega
                case rel => exact ⟨(wrap64 (x5_1 + 1)), (by first | rfl | (simp; done) | (simp [*]; done)), H', ⟨by have := HK1.out; omega⟩, by repeat (first | exact Drawn0.refl _ | apply Drawn0.step)⟩
            · rw [if_neg c6] at H
              exact absurd H (by simp)
          · rw [if_neg c5] at H
            exact absurd H (by simp)
        · rw [if_neg c4] at H
          have c4b0 : decide (x5_1 < (l0.length : Int)) = false := decide_eq_false c4
          clear c4
          obtain rfl := Option.some.inj H
          go_wp2
          repeat (go_quiet (fail); try go_wp2)
          go_ret
          exact ⟨by first | rfl | (simp; done) | (simp [*]; done), by repeat (first | exact Drawn0.refl _ | apply Drawn0.step)⟩
  · rw [if_neg c3] at H
    have c3b0 : ((l0.length : Int) == (l1.length : Int)) = false := beq_eq_false_iff_ne.mpr c3
    have c3b1 : ((l0.length : Int) != (l1.length : Int)) = true := bne_iff_ne.mpr c3
    have c3b2 : (l0.length == l1.length) = false := by first | simpa using c3 | (simp at c3 ⊢; omega)
    obtain rfl := Option.some.inj H
    go_enter Try.func11, Try.ntmps11
    go_wp2
    repeat (go_quiet (fail); try go_wp2)
    go_ret
    exact ⟨by first | rfl | (simp; done) | (simp [*]; done), by repeat (first | exact Drawn0.refl _ | apply Drawn0.step)⟩

/-! ### thermographlaw16_RangesOrder: function 3 -/
mutual
def thermographlaw16_RangesOrder.l0 : Nat → List (S24) → Int → List (S24) → Int → Option (Bool)
  | 0, _, _, _, _ => none
  | k + 1, x0, x1, x5, x6 => if x6 ≥ 0 then (if 0 ≤ x6 then (if x6 < (x0.length : Int) then ((some (([(⟨(rd_T24 x0 x6).f0, (rd_T24 x0 x6).f1⟩ : S24), (⟨(rd_T24 x0 x6).f0, (rd_T24 x0 x6).f1⟩ : S24)] : List (S24)) : List (S24))).bind fun y147 => (if x5.length + y147.length < 8796093022208 then (thermographlaw16_RangesOrder.l0 k x0 x1 (x5 ++ y147) (wrap64 (x6 - 1))) else (none))) else (none)) else (none)) else (if (wrap64 ((x0.length : Int) + 1)) = 0 then (none) else (if 0 ≤ (Int.tmod (wrap64 ((wrap64 ((Int.tmod x1 (wrap64 ((x0.length : Int) + 1))) + (x0.length : Int))) + 1)) (wrap64 ((x0.length : Int) + 1))) then (if (Int.tmod (wrap64 ((wrap64 ((Int.tmod x1 (wrap64 ((x0.length : Int) + 1))) + (x0.length : Int))) + 1)) (wrap64 ((x0.length : Int) + 1))) ≤ (x0.length : Int) then ((ranges_Normal.f (x0.take ((Int.tmod (wrap64 ((wrap64 ((Int.tmod x1 (wrap64 ((x0.length : Int) + 1))) + (x0.length : Int))) + 1)) (wrap64 ((x0.length : Int) + 1))) : Int).toNat)).bind fun t157 => (thermographlaw16_RangesOrder.l1 k x0 x5 t157 (Int.tmod (wrap64 ((wrap64 ((Int.tmod x1 (wrap64 ((x0.length : Int) + 1))) + (x0.length : Int))) + 1)) (wrap64 ((x0.length : Int) + 1))))) else (none)) else (none)))
def thermographlaw16_RangesOrder.l1 : Nat → List (S24) → List (S24) → List (S24) → Int → Option (Bool)
  | 0, _, _, _, _ => none
  | k + 1, x0, x5, x7, x8 => if x8 < (x0.length : Int) then (if 0 ≤ x8 then ((ranges_Add.f x7 ((rd_T24 x0 x8).f0) ((rd_T24 x0 x8).f1)).bind fun t161 => (thermographlaw16_RangesOrder.l1 k x0 x5 t161 (wrap64 (x8 + 1)))) else (none)) else ((thermographref16_Normal.f k x0).bind fun t164 => ((ranges_Normal.f x5).bind fun t167 => ((thermographlaw16_same.f k t167 t164).bind fun t170 => (if t170 = true then ((thermographlaw16_same.f k x7 t164).bind fun t171 => (some t171)) else (some false)))))
end
def thermographlaw16_RangesOrder.f (k : Nat) (l0 : List (S24)) (a1 : Int) : Option (Bool) := if (l0.length : Int) > 512 then (some true) else (thermographlaw16_RangesOrder.l0 k l0 a1 (([] : List (S24))) (wrap64 ((l0.length : Int) - 1)))
theorem thermographlaw16_RangesOrder.mono_l : ∀ k, (∀ y0 y1 y2 y3, LeO (thermographlaw16_RangesOrder.l0 k y0 y1 y2 y3) (thermographlaw16_RangesOrder.l0 (k + 1) y0 y1 y2 y3)) ∧ (∀ y0 y1 y2 y3, LeO (thermographlaw16_RangesOrder.l1 k y0 y1 y2 y3) (thermographlaw16_RangesOrder.l1 (k + 1) y0 y1 y2 y3))
  | 0 => ⟨fun _ _ _ _ r h => by simp [thermographlaw16_RangesOrder.l0] at h, fun _ _ _ _ r h => by simp [thermographlaw16_RangesOrder.l1] at h⟩
  | k + 1 => by
    obtain ⟨ih0, ih1⟩ := thermographlaw16_RangesOrder.mono_l k
    refine ⟨?_, ?_⟩
    · intro y0 y1 y2 y3
      unfold thermographlaw16_RangesOrder.l0
      repeat' first
      | (with_reducible exact ih0 _ _ _ _)
      | (with_reducible exact ih1 _ _ _ _)
      | (with_reducible exact thermographlaw16_same.mono _ _ _)
      | (with_reducible exact thermographref16_Normal.mono _ _)
      | (with_reducible exact LeO.refl _)
      | (with_reducible exact LeO.none _)
      | (with_reducible refine LeO.ite ?_ ?_)
      | (with_reducible refine LeO.bind ?_ (fun _ => ?_))
      | exact ih0 _ _ _ _
      | exact ih1 _ _ _ _
      | exact thermographlaw16_same.mono _ _ _
      | exact thermographref16_Normal.mono _ _
      | exact LeO.none _
      | refine LeO.ite ?_ ?_
      | refine LeO.bind ?_ (fun _ => ?_)
    · intro y0 y1 y2 y3
      unfold thermographlaw16_RangesOrder.l1
      repeat' first
      | (with_reducible exact ih0 _ _ _ _)
      | (with_reducible exact ih1 _ _ _ _)
      | (with_reducible exact thermographlaw16_same.mono _ _ _)
      | (with_reducible exact thermographref16_Normal.mono _ _)
      | (with_reducible exact LeO.refl _)
      | (with_reducible exact LeO.none _)
      | (with_reducible refine LeO.ite ?_ ?_)
      | (with_reducible refine LeO.bind ?_ (fun _ => ?_))
      | exact ih0 _ _ _ _
      | exact ih1 _ _ _ _
      | exact thermographlaw16_same.mono _ _ _
      | exact thermographref16_Normal.mono _ _
      | exact LeO.none _
      | refine LeO.ite ?_ ?_
      | refine LeO.bind ?_ (fun _ => ?_)
theorem thermographlaw16_RangesOrder.mono : ∀ a0 a1 k, LeO (thermographlaw16_RangesOrder.f k a0 a1) (thermographlaw16_RangesOrder.f (k + 1) a0 a1) := by
  intro a0 a1 k
  obtain ⟨ih0, ih1⟩ := thermographlaw16_RangesOrder.mono_l k
  unfold thermographlaw16_RangesOrder.f
  repeat' first
      | (with_reducible exact ih0 _ _ _ _)
      | (with_reducible exact ih1 _ _ _ _)
      | (with_reducible exact thermographlaw16_same.mono _ _ _)
      | (with_reducible exact thermographref16_Normal.mono _ _)
      | (with_reducible exact LeO.refl _)
      | (with_reducible exact LeO.none _)
      | (with_reducible refine LeO.ite ?_ ?_)
      | (with_reducible refine LeO.bind ?_ (fun _ => ?_))
      | exact ih0 _ _ _ _
      | exact ih1 _ _ _ _
      | exact thermographlaw16_same.mono _ _ _
      | exact thermographref16_Normal.mono _ _
      | exact LeO.none _
      | refine LeO.ite ?_ ?_
      | refine LeO.bind ?_ (fun _ => ?_)
def thermographlaw16_RangesOrder.T7 : Bool × List (List Nat × List Nat) := (true, [([], []), ([], []), ([], []), ([1, 2], [1, 2]), ([3], [3]), ([], []), ([], []), ([5, 6], [5, 6]), ([7], [7]), ([4, 8], [4, 8]), ([0, 9], [0, 9]), ([10, 10, 0, 1, 2, 3, 4, 5, 6, 7, 8, 9, 10], [0, 10])])
def thermographlaw16_RangesOrder.B7 : List Nat := [0, 0, 0, 6, 14, 0, 0, 96, 224, 510, 1023, 2047]
theorem thermographlaw16_RangesOrder.tab7 : rtab .any (opsOf Try.f3 7) = thermographlaw16_RangesOrder.T7 := by kernel_rfl
theorem thermographlaw16_RangesOrder.bits7 : waitsOk thermographlaw16_RangesOrder.T7.2 thermographlaw16_RangesOrder.B7 = true := by kernel_rfl
set_option maxHeartbeats 8000000 in
set_option maxRecDepth 100000 in
theorem thermographlaw16_RangesOrder.calls (k : Nat) (A0 : Option Addr) (c0 : Nat) (l0 : List (S24)) (a1 : Int) (r : Bool) (w : World) (hr0 : Kd.C k24 w A0 l0.length l0) (hc0 : l0.length ≤ c0) (h : thermographlaw16_RangesOrder.f k l0 a1 = some r) :
    Calls Try.prog 3 #[.slice A0 l0.length c0, .int .i64 a1] w fun e w' => e = .returned (.bool r) ∧ Below w.heap.size w w' := by
  have hu24 := Try.underlying24
  have HR0 := Aside0.mk hr0
  have HC0 := Aside0.mk hc0
  clear hr0 hc0
  have HB := Aside0.mk (Below.refl w.heap.size w)
  have H : (if (l0.length : Int) > 512 then (some true) else (thermographlaw16_RangesOrder.l0 k l0 a1 (([] : List (S24))) (wrap64 ((l0.length : Int) - 1)))) = some r := h
  clear h
  by_cases c3 : (l0.length : Int) > 512
  · rw [if_pos c3] at H
    have c3b0 : decide (512 < (l0.length : Int)) = true := decide_eq_true c3
    have c3b1 : decide (512 < l0.length) = true := decide_eq_true (by omega)
    clear c3
    obtain rfl := Option.some.inj H
    go_enter Try.func3, Try.ntmps3
    go_wp2
    go_ret
    exact ⟨by first | rfl | (simp [errW_none, errW_some] <;> rfl) | (simp [*, errW_none, errW_some] <;> rfl), by repeat (first | (with_reducible first | exact HB.out | apply below_alloc | apply pw_below_drewN | apply below_drew1) | exact HB.out)⟩
  · rw [if_neg c3] at H
    have c3b0 : decide (512 < (l0.length : Int)) = false := decide_eq_false c3
    have c3b1 : decide (512 < l0.length) = false := decide_eq_false (by omega)
    clear c3
    obtain ⟨y142, hy142⟩ : ∃ y_ : List (S24), y_ = (([] : List (S24))) := ⟨_, rfl⟩
    replace H : (thermographlaw16_RangesOrder.l0 k l0 a1 y142 (wrap64 ((l0.length : Int) - 1))) = some r := by first | (rw [hy142]; with_reducible exact H) | (have H2_ := (Option.bind_some _ _).symm.trans H; rw [hy142]; with_reducible exact H2_) | (have H2_ := (Option.bind_some _ _).symm.trans H; with_reducible exact H2_) | with_reducible exact H | (rw [hy142]; exact H) | exact H
    have Ny142 := Aside0.mk hy142
    clear hy142
    have H' := Aside0.mk H
    clear H
    go_enter Try.func3, Try.ntmps3
    go_wp2_with (first | ((with_reducible refine gate_dst (N := 13) rfl ?_); refine Kd.R_lit k24 _ 24 ?hg (N := 13) ?hd (xs := ([] : List (S24))) (inner := []) (ok := fun _ => True) (okp := fun _ => True) ?hr ?hp (fun _ hk => hk) trivial (Below.refl _ _) (Nat.le_refl _) (by simp) ?_; (case hd => rfl); (case hg => rfl); (case hr => first | (go_simp; done) | (go_simp; rfl)); (case hp => exact (Reps.none _ _)); intro v143 w4 ho5 hb hg_ hnew_; clear hg_ hnew_; (first | rw [← Ny142.out] at ho5 | (simp only [Int.reduceToNat] at ho5; rw [← Ny142.out] at ho5)); have n0_ := Aside0.mk (Kd.R_lower ho5 (below_size (by repeat (first | (with_reducible first | exact HB.out | apply below_alloc | apply pw_below_drewN | apply below_drew1) | exact HB.out)))); have n1_ := Aside0.mk (below_step (by repeat (first | (with_reducible first | exact HB.out | apply below_alloc | apply pw_below_drewN | apply below_drew1) | exact HB.out)) hb); clear HB; have HO144 := n0_; have HB := n1_; clear n0_ n1_; clear hb ho5))
    go_loopg [5, 6] k (fun kq v5 v6 w' => ∃ (x5_1 : List (S24)) (x6_1 : Int), v6 = .int .i64 x6_1 ∧ Aside0 (thermographlaw16_RangesOrder.l0 kq l0 a1 x5_1 x6_1 = some r) ∧ Aside0 (kq ≤ k) ∧ Aside0 (Kd.R k24 24 w' w.heap.size (fun _ => True) v5 x5_1) ∧ Aside0 (Below w.heap.size w w'))
    case atStart => exact ⟨(y142), (wrap64 ((l0.length : Int) - 1)), (by first | rfl | (simp; done) | (simp [*]; done)), H', ⟨Nat.le_refl _⟩, ⟨by (with_reducible repeat (first | apply Kd.R_alloc | apply Kd.R_drewN | apply Kd.R_drew)); exact HO144.out⟩, ⟨by repeat (first | (with_reducible first | exact HB.out | apply below_alloc | apply pw_below_drewN | apply below_drew1) | exact HB.out)⟩⟩
    case round =>
      clear H'
      try clear p2
      try clear c3
      try clear c3b0
      try clear c3b1
      obtain ⟨x5_1, x6_1, rfl, HA, HK1, HO_5, HB⟩ := hrel
      cases gk with
      | zero => exact absurd HA.out (by simp [thermographlaw16_RangesOrder.l0])
      | succ k1 =>
        have H := HA.out
        clear HA
        simp only [thermographlaw16_RangesOrder.l0] at H
        by_cases c6 : x6_1 ≥ 0
        · rw [if_pos c6] at H
          have c6b0 : decide (0 ≤ x6_1) = true := decide_eq_true c6
          clear c6
          by_cases c7 : 0 ≤ x6_1
          · rw [if_pos c7] at H
            have c7b0 : decide (0 ≤ x6_1) = true := decide_eq_true c7
            clear c7
            by_cases c8 : x6_1 < (l0.length : Int)
            · rw [if_pos c8] at H
              have c8b0 : decide (x6_1 < (l0.length : Int)) = true := decide_eq_true c8
              clear c8
              obtain ⟨y147, hy147⟩ : ∃ y_ : List (S24), y_ = (([(⟨(rd_T24 l0 x6_1).f0, (rd_T24 l0 x6_1).f1⟩ : S24), (⟨(rd_T24 l0 x6_1).f0, (rd_T24 l0 x6_1).f1⟩ : S24)] : List (S24))) := ⟨_, rfl⟩
              replace H : (if x5_1.length + y147.length < 8796093022208 then (thermographlaw16_RangesOrder.l0 k1 l0 a1 (x5_1 ++ y147) (wrap64 (x6_1 - 1))) else (none)) = some r := by first | (rw [hy147]; with_reducible exact H) | (have H2_ := (Option.bind_some _ _).symm.trans H; rw [hy147]; with_reducible exact H2_) | (have H2_ := (Option.bind_some _ _).symm.trans H; with_reducible exact H2_) | with_reducible exact H | (rw [hy147]; exact H) | exact H
              have Ny147 := Aside0.mk hy147
              clear hy147
              by_cases c9 : x5_1.length + y147.length < 8796093022208
              · rw [if_pos c9] at H
                have LMc9 := Aside0.mk c9
                clear c9
                obtain ⟨y150, hy150⟩ : ∃ y_ : List (S24), y_ = (x5_1 ++ y147) := ⟨_, rfl⟩
                replace H : (thermographlaw16_RangesOrder.l0 k1 l0 a1 y150 (wrap64 (x6_1 - 1))) = some r := by first | (rw [hy150]; with_reducible exact H) | (have H2_ := (Option.bind_some _ _).symm.trans H; rw [hy150]; with_reducible exact H2_) | (have H2_ := (Option.bind_some _ _).symm.trans H; with_reducible exact H2_) | with_reducible exact H | (rw [hy150]; exact H) | exact H
                have Ny150 := Aside0.mk hy150
                clear hy150
                have H' := Aside0.mk H
                clear H
                try go_wp2
                have n0_ := Aside0.mk (Kd.R_drew HO_5.out)
                have n1_ := Aside0.mk (below_drew1 HB.out)
                clear HO_5
                clear HB
                have HO_5 := n0_
                have HB := n1_
                clear n0_ n1_
                have p145 : 0 ≤ (x6_1 : Int) := of_decide_eq_true (by first | (with_reducible assumption) | assumption)
                have q145 : x6_1 < (l0.length : Int) := of_decide_eq_true (by first | (with_reducible assumption) | assumption)
                obtain ⟨ad145, e145, hx145_0, hx145_1⟩ := at_T24 HR0.out x6_1 p145 q145
                have hw145_1 := hx145_1
                have hw145_0 := hx145_0
                cases e145
                replace hx145_0 := (HB.out.cell (World.block_lt_of_cell? w _ hx145_0)).trans hx145_0
                replace hx145_1 := (HB.out.cell (World.block_lt_of_cell? w _ hx145_1)).trans hx145_1
                replace p145 := eq_true p145
                replace q145 := eq_true q145
                have p146 : 0 ≤ (x6_1 : Int) := of_decide_eq_true (by first | (with_reducible assumption) | assumption)
                have q146 : x6_1 < (l0.length : Int) := of_decide_eq_true (by first | (with_reducible assumption) | assumption)
                obtain ⟨ad146, e146, hx146_0, hx146_1⟩ := at_T24 HR0.out x6_1 p146 q146
                have hw146_1 := hx146_1
                have hw146_0 := hx146_0
                obtain rfl : ad145 = ad146 := (by injection e146)
                replace hx146_0 := (HB.out.cell (World.block_lt_of_cell? w _ hx146_0)).trans hx146_0
                replace hx146_1 := (HB.out.cell (World.block_lt_of_cell? w _ hx146_1)).trans hx146_1
                replace p146 := eq_true p146
                replace q146 := eq_true q146
                refine start_ (n := 12) (S := fun w' => w'.cell? (ad145.add ((x6_1).toNat * 2)) = some (.int .i64 ((rd_T24 l0 x6_1).f0)) ∧ w'.cell? ⟨(ad145.add ((x6_1).toNat * 2)).block, (ad145.add ((x6_1).toNat * 2)).off + 1, none⟩ = some (.int .i64 ((rd_T24 l0 x6_1).f1)) ∧ w'.cell? (ad145.add ((x6_1).toNat * 2)) = some (.int .i64 ((rd_T24 l0 x6_1).f0)) ∧ w'.cell? ⟨(ad145.add ((x6_1).toNat * 2)).block, (ad145.add ((x6_1).toNat * 2)).off + 1, none⟩ = some (.int .i64 ((rd_T24 l0 x6_1).f1))) (ds := []) #[false, false, false, false, false, false, false, false, false, false, false, false] (by kernel_rfl) rfl rfl ⟨((HB.out.cell (World.block_lt_of_cell? w _ hw145_0)).trans hw145_0), ((HB.out.cell (World.block_lt_of_cell? w _ hw145_1)).trans hw145_1), ((HB.out.cell (World.block_lt_of_cell? w _ hw146_0)).trans hw146_0), ((HB.out.cell (World.block_lt_of_cell? w _ hw146_1)).trans hw146_1)⟩ (fun hHeld => ?_); refine with_tabW thermographlaw16_RangesOrder.tab7 thermographlaw16_RangesOrder.bits7 (fun HT_ HW_ => ?_)
                generalize wr.drew = w10 at HO_5 HB hx145_0 hx145_1 hx146_0 hx146_1 hHeld ⊢
                refine pure_ (i := 0) (N := some 21) (v := ?_) (a' := ?_) #[true, false, false, false, false, false, false, false, false, false, false, false] rfl rfl (any_of HT_.out (by kernel_rfl)) (fun _ _ _ h => h) (Or.inl ⟨by rfl, ?_⟩) ?_ ?_
                rotate_left
                · intro w'
                  go_simp
                  with_reducible rfl
                rotate_left
                · simp only [Act.put, List.setIfInBounds_toArray, List.set_cons_zero, List.set_cons_succ, i64_w, i32_w]
                  rfl
                refine pure_ (i := 1) (N := some 22) (v := ?_) (a' := ?_) #[true, true, false, false, false, false, false, false, false, false, false, false] rfl rfl (any_of HT_.out (by kernel_rfl)) (fun _ _ _ h => h) (Or.inl ⟨by rfl, ?_⟩) ?_ ?_
                rotate_left
                · intro w'
                  go_simp
                  with_reducible rfl
                rotate_left
                · simp only [Act.put, List.setIfInBounds_toArray, List.set_cons_zero, List.set_cons_succ, i64_w, i32_w]
                  rfl
                refine pure_ (i := 2) (N := some 23) (v := ?_) (a' := ?_) #[true, true, true, false, false, false, false, false, false, false, false, false] rfl rfl (any_of HT_.out (by kernel_rfl)) (fun _ _ _ h => h) (Or.inl ⟨by rfl, ?_⟩) ?_ ?_
                rotate_left
                · intro w'
                  go_simp
                  with_reducible rfl
                rotate_left
                · simp only [Act.put, List.setIfInBounds_toArray, List.set_cons_zero, List.set_cons_succ, i64_w, i32_w]
                  rfl
                refine pure_ (i := 3) (N := some 24) (v := ?_) (a' := ?_) #[true, true, true, true, false, false, false, false, false, false, false, false] rfl rfl (any_of HT_.out (by kernel_rfl)) (fun _ _ _ h => h) (Or.inl ⟨by rfl, ?_⟩) ?_ ?_
                rotate_left
                · intro w'
                  go_simp
                  with_reducible rfl
                rotate_left
                · simp only [Act.put, List.setIfInBounds_toArray, List.set_cons_zero, List.set_cons_succ, i64_w, i32_w]
                  rfl
                refine pure_ (i := 5) (N := some 26) (v := ?_) (a' := ?_) #[true, true, true, true, false, true, false, false, false, false, false, false] rfl rfl (any_of HT_.out (by kernel_rfl)) (fun _ _ _ h => h) (Or.inl ⟨by rfl, ?_⟩) ?_ ?_
                rotate_left
                · intro w'
                  go_simp
                  with_reducible rfl
                rotate_left
                · simp only [Act.put, List.setIfInBounds_toArray, List.set_cons_zero, List.set_cons_succ, i64_w, i32_w]
                  rfl
                refine pure_ (i := 6) (N := some 27) (v := ?_) (a' := ?_) #[true, true, true, true, false, true, true, false, false, false, false, false] rfl rfl (any_of HT_.out (by kernel_rfl)) (fun _ _ _ h => h) (Or.inl ⟨by rfl, ?_⟩) ?_ ?_
                rotate_left
                · intro w'
                  go_simp
                  with_reducible rfl
                rotate_left
                · simp only [Act.put, List.setIfInBounds_toArray, List.set_cons_zero, List.set_cons_succ, i64_w, i32_w]
                  rfl
                refine pure_ (i := 7) (N := some 28) (v := ?_) (a' := ?_) #[true, true, true, true, false, true, true, true, false, false, false, false] rfl rfl (any_of HT_.out (by kernel_rfl)) (fun _ _ _ h => h) (Or.inl ⟨by rfl, ?_⟩) ?_ ?_
                rotate_left
                · intro w'
                  go_simp
                  with_reducible rfl
                rotate_left
                · simp only [Act.put, List.setIfInBounds_toArray, List.set_cons_zero, List.set_cons_succ, i64_w, i32_w]
                  rfl
                refine take_ (i := 4) (N := some 25) (v := ?_) (a' := ?_) #[true, true, true, true, true, true, true, true, false, false, false, false] rfl rfl (take_ofW HT_.out HW_.out (by kernel_rfl)) (fun _ _ _ h => h) (Or.inl ⟨by rfl, ?_⟩) hHeld ?_ ?_
                rotate_left
                · rintro w' ⟨s0, s1, s2, s3⟩
                  go_simp
                  with_reducible rfl
                rotate_left
                · simp only [Act.put, List.setIfInBounds_toArray, List.set_cons_zero, List.set_cons_succ, i64_w, i32_w]
                  rfl
                refine take_ (i := 8) (N := some 29) (v := ?_) (a' := ?_) #[true, true, true, true, true, true, true, true, true, false, false, false] rfl rfl (take_ofW HT_.out HW_.out (by kernel_rfl)) (fun _ _ _ h => h) (Or.inl ⟨by rfl, ?_⟩) hHeld ?_ ?_
                rotate_left
                · rintro w' ⟨s0, s1, s2, s3⟩
                  go_simp
                  with_reducible rfl
                rotate_left
                · simp only [Act.put, List.setIfInBounds_toArray, List.set_cons_zero, List.set_cons_succ, i64_w, i32_w]
                  rfl
                refine one_ (i := 9) (N := some 30) #[true, true, true, true, true, true, true, true, true, true, false, false] rfl rfl (one_of HT_.out (by kernel_rfl)) (by decide) (fun K hK => ?_)
                refine Kd.R_lit_step k24 _ 24 ?hg (N := 30) ?hd (xs := ([(⟨(rd_T24 l0 x6_1).f0, (rd_T24 l0 x6_1).f1⟩ : S24), (⟨(rd_T24 l0 x6_1).f0, (rd_T24 l0 x6_1).f1⟩ : S24)] : List (S24))) (inner := [.int .i64 ((rd_T24 l0 x6_1).f0), .int .i64 ((rd_T24 l0 x6_1).f1), .int .i64 ((rd_T24 l0 x6_1).f0), .int .i64 ((rd_T24 l0 x6_1).f1)]) (ok := fun _ => True) (okp := fun _ => True) ?hr ?hp (fun _ hk => hk) trivial (Below.refl _ _) (Nat.le_refl _) (by simp) ?_; (case hd => rfl); (case hg => rfl); (case hr => first | (go_simp; done) | (go_simp; rfl)); (case hp => exact (Reps.c2 (show Kd.M k24 _ _ _ (⟨(rd_T24 l0 x6_1).f0, (rd_T24 l0 x6_1).f1⟩ : S24) [.int .i64 ((rd_T24 l0 x6_1).f0), .int .i64 ((rd_T24 l0 x6_1).f1)] from (k24_mkM _ _ _ (⟨(rd_T24 l0 x6_1).f0, (rd_T24 l0 x6_1).f1⟩ : S24) )) (Reps.c2 (show Kd.M k24 _ _ _ (⟨(rd_T24 l0 x6_1).f0, (rd_T24 l0 x6_1).f1⟩ : S24) [.int .i64 ((rd_T24 l0 x6_1).f0), .int .i64 ((rd_T24 l0 x6_1).f1)] from (k24_mkM _ _ _ (⟨(rd_T24 l0 x6_1).f0, (rd_T24 l0 x6_1).f1⟩ : S24) )) (Reps.none _ _))))
                intro v148 w11 ho12 hb hg_ hnew_
                clear hg_ hnew_
                (first | rw [← Ny147.out] at ho12 | (simp only [Int.reduceToNat] at ho12; rw [← Ny147.out] at ho12))
                have n0_ := Aside0.mk (Kd.R_elder' (by (with_reducible repeat (first | apply Kd.R_alloc | apply Kd.R_drewN | apply Kd.R_drew)); exact HO_5.out) (Kd.R_base ho12) hb)
                have n1_ := Aside0.mk (Kd.R_lower (Kd.R_new' ho12 (Kd.R_lt (by (with_reducible repeat (first | apply Kd.R_alloc | apply Kd.R_drewN | apply Kd.R_drew)); exact HO_5.out))) (below_size (by repeat (first | (with_reducible first | exact HB.out | apply below_alloc | apply pw_below_drewN | apply below_drew1) | exact HB.out))))
                have n2_ := Aside0.mk (below_step (by repeat (first | (with_reducible first | exact HB.out | apply below_alloc | apply pw_below_drewN | apply below_drew1) | exact HB.out)) hb)
                clear HO_5
                clear HB
                have HO_5 := n0_
                have HO149 := n1_
                have HB := n2_
                clear n0_ n1_ n2_
                clear hb ho12
                obtain ⟨Ao14, co14, eo14⟩ := Kd.R_slice HO149.out
                (first | subst eo14 | (injection eo14 with f1_ f2_ f3_; have f4_ := f1_.symm; have f5_ := f3_.symm; clear f1_ f2_ f3_; subst f4_; subst f5_))
                refine hK.out _ _ ⟨((HB.out.cell (World.block_lt_of_cell? w _ hw145_0)).trans hw145_0), ((HB.out.cell (World.block_lt_of_cell? w _ hw145_1)).trans hw145_1), ((HB.out.cell (World.block_lt_of_cell? w _ hw146_0)).trans hw146_0), ((HB.out.cell (World.block_lt_of_cell? w _ hw146_1)).trans hw146_1)⟩ (fun hHeld => ?_)
                clear hK K
                refine norm_ (a' := ?_) ?_ ?_
                rotate_left
                · show Act.put _ (some 30) _ = _
                  simp only [Act.put, List.setIfInBounds_toArray, List.set_cons_zero, List.set_cons_succ, i64_w, i32_w]
                  rfl
                refine one_ (i := 10) (N := some 31) #[true, true, true, true, true, true, true, true, true, true, true, false] rfl rfl (one_of HT_.out (by kernel_rfl)) (by decide) (fun K hK => ?_)
                refine Kd.R_append_rows_step k24 (w0 := w) w.heap.size (by rfl) (.tmp 21) (.tmp 30) 22 24 (.agg #[(.int .i64 0), (.int .i64 0)]) 16 rfl Try.underlying22 info24 rfl (by decide) (by omega) u5 x5_1 y147 _ _ _ (fun k_ => some k_ ≠ (.slice Ao14 y147.length co14 : Value).ownBlock) (fun _ => False) rfl rfl ?aO ?aR (fun _ _ h => h) (fun _ h => h.elim) ?aF ?aB ?aS ?aL ?_
                (case aR => repeat (first | exact (Kd.R_reads' HO149.out).2.2 | (with_reducible refine Kd.C_alloc ?_ _) | (with_reducible refine Kd.C_drewN ?_ _) | (with_reducible refine Kd.C_drew ?_)))
                (case aB => exact (by repeat (first | (with_reducible first | exact HB.out | apply below_alloc | apply pw_below_drewN | apply below_drew1) | exact HB.out)))
                (case aF => exact (fun k_ hk => Kd.fresh' (Kd.R_lt (by (with_reducible repeat (first | apply Kd.R_alloc | apply Kd.R_drewN | apply Kd.R_drew)); exact HO149.out)) k_ hk))
                (case aO => exact (by (with_reducible repeat (first | apply Kd.R_alloc | apply Kd.R_drewN | apply Kd.R_drew)); exact Kd.R_mono HO_5.out (fun _ hk => hk.2)))
                (case aS => exact (below_size (by repeat (first | (with_reducible first | exact HB.out | apply below_alloc | apply pw_below_drewN | apply below_drew1) | exact HB.out))))
                (case aL => have := LMc9.out; omega)
                intro v151 w13 ho hb hg hat
                rw [← Ny150.out] at ho
                have n0_ := Aside0.mk (Kd.R_after (ok := (fun _ => True)) (by (with_reducible repeat (first | apply Kd.R_alloc | apply Kd.R_drewN | apply Kd.R_drew)); exact HO149.out) hg hat)
                have n1_ := Aside0.mk (hb)
                have n2_ := Aside0.mk (ho)
                clear HO149
                clear HB
                clear HO_5
                have HO149 := n0_
                have HB := n1_
                have HO152 := n2_
                clear n0_ n1_ n2_
                clear ho hb hg hat
                refine hK.out _ _ ⟨((HB.out.cell (World.block_lt_of_cell? w _ hw145_0)).trans hw145_0), ((HB.out.cell (World.block_lt_of_cell? w _ hw145_1)).trans hw145_1), ((HB.out.cell (World.block_lt_of_cell? w _ hw146_0)).trans hw146_0), ((HB.out.cell (World.block_lt_of_cell? w _ hw146_1)).trans hw146_1)⟩ (fun hHeld => ?_)
                clear hK K
                refine norm_ (a' := ?_) ?_ ?_
                rotate_left
                · show Act.put _ (some 31) _ = _
                  simp only [Act.put, List.setIfInBounds_toArray, List.set_cons_zero, List.set_cons_succ, i64_w, i32_w]
                  rfl
                refine pure_ (i := 11) (N := some 5) (v := ?_) (a' := ?_) #[true, true, true, true, true, true, true, true, true, true, true, true] rfl rfl (any_of HT_.out (by kernel_rfl)) (fun _ _ _ h => h) (Or.inl ⟨by rfl, ?_⟩) ?_ ?_
                rotate_left
                · intro w'
                  go_simp
                  with_reducible rfl
                rotate_left
                · simp only [Act.put, List.setIfInBounds_toArray, List.set_cons_zero, List.set_cons_succ, i64_w, i32_w]
                  rfl
                refine done_ (done_of HT_.out (by kernel_rfl)) ?_
                try go_wp2
                go_roundg k1
                case measure => have := HK1.out; omega
                case rel => exact ⟨(y150), (wrap64 (x6_1 - 1)), (by first | rfl | (simp; done) | (simp [*]; done)), H', ⟨by have := HK1.out; omega⟩, ⟨by (with_reducible repeat (first | apply Kd.R_alloc | apply Kd.R_drewN | apply Kd.R_drew)); exact Kd.R_mono HO152.out (fun _ hk => trivial)⟩, ⟨by repeat (first | (with_reducible first | exact HB.out | apply below_alloc | apply pw_below_drewN | apply below_drew1) | exact HB.out)⟩⟩
              · rw [if_neg c9] at H
                exact absurd H (by simp)
            · rw [if_neg c8] at H
              exact absurd H (by simp)
          · rw [if_neg c7] at H
            exact absurd H (by simp)
        · rw [if_neg c6] at H
          have c6b0 : decide (0 ≤ x6_1) = false := decide_eq_false c6
          clear c6
          by_cases c15 : (wrap64 ((l0.length : Int) + 1)) = 0
          · rw [if_pos c15] at H
            exact absurd H (by simp)
          · rw [if_neg c15] at H
            have c15b0 : ((wrap64 ((l0.length : Int) + 1)) == 0) = false := beq_eq_false_iff_ne.mpr c15
            have c15b1 : ((wrap64 ((l0.length : Int) + 1)) != 0) = true := bne_iff_ne.mpr c15
            obtain ⟨ji16, hji16⟩ : ∃ j_ : Int, (Int.tmod (wrap64 ((wrap64 ((Int.tmod a1 (wrap64 ((l0.length : Int) + 1))) + (l0.length : Int))) + 1)) (wrap64 ((l0.length : Int) + 1))) = j_ := ⟨_, rfl⟩
            replace H : (if 0 ≤ (ji16) then (if (ji16) ≤ (l0.length : Int) then ((ranges_Normal.f (l0.take ((ji16) : Int).toNat)).bind fun t157 => (thermographlaw16_RangesOrder.l1 k1 l0 x5_1 t157 ji16)) else (none)) else (none)) = some r := by first | (rw [hji16] at H; exact H) | (simp only [hji16] at H ⊢; exact H)
            by_cases c17 : 0 ≤ (ji16)
            · rw [if_pos c17] at H
              have c17b0 := eq_true c17
              have c17b1 : decide (0 ≤ (ji16)) = true := decide_eq_true c17
              clear c17
              by_cases c18 : (ji16) ≤ (l0.length : Int)
              · rw [if_pos c18] at H
                have c18b0 := eq_true c18
                have c18b1 : decide ((ji16) ≤ (l0.length : Int)) = true := decide_eq_true c18
                clear c18
                obtain ⟨y153, hy153⟩ : ∃ y_ : List (S24), y_ = (l0.take ((ji16) : Int).toNat) := ⟨_, rfl⟩
                replace H : ((ranges_Normal.f y153).bind fun t157 => (thermographlaw16_RangesOrder.l1 k1 l0 x5_1 t157 ji16)) = some r := by first | (rw [hy153]; with_reducible exact H) | (have H2_ := (Option.bind_some _ _).symm.trans H; rw [hy153]; with_reducible exact H2_) | (have H2_ := (Option.bind_some _ _).symm.trans H; with_reducible exact H2_) | with_reducible exact H | (rw [hy153]; exact H) | exact H
                have Ny153 := Aside0.mk hy153
                clear hy153
                replace H := Option.bind_eq_some_iff.mp H
                obtain ⟨t157, A190, H⟩ := H
                replace H : (thermographlaw16_RangesOrder.l1 k1 l0 x5_1 t157 ji16) = some r := H
                have A19 := Aside0.mk A190
                clear A190
                have H' := Aside0.mk H
                clear H
                have q20 : ((ji16) : Int) ≤ ((l0.length : Int) : Int) := of_decide_eq_true (by first | (with_reducible assumption) | assumption)
                obtain ⟨i020, hi020, _, hsz20, _⟩ := info_parts info24
                have hroom20 : l0.length ≤ c0 := HC0.out
                have hC20 : Kd.C k24 _ A0 l0.length l0 := HR0.out
                have hcut20 := cut_to (P := Try.prog) 22 24 .i64 Try.underlying22 hi020 A0 l0.length c0 (ji16) (of_decide_eq_true (by first | (with_reducible assumption) | assumption)) q20 hroom20
                have hr20 := Kd.C_take (m := ((ji16) : Int).toNat) hC20 (by omega)
                have hy20 : y153.length = ((ji16) : Int).toNat := (by rw [Ny153.out, List.length_take]; omega)
                rw [← Ny153.out] at hr20
                rw [← hy20] at hcut20
                have HR156 := Aside0.mk hr20
                have HC156 := Aside0.mk (show y153.length ≤ c0 from by omega)
                clear hr20 hC20 hroom20 hi020 hsz20
                have KY20 := Aside0.mk hy20
                clear hy20
                replace q20 := eq_true q20
                go_wp2_with (first | ((with_reducible refine gate_callee (f := 8) rfl ?_); refine goesL_ (some 48) rfl rfl Try.func8 (by kernel_rfl) rfl #[.slice A0 y153.length c0] rfl (by (try simp only [List.map_toArray, List.map_cons, List.map_nil]); first | done | rfl | (simp only [List.length_drop, List.length_take]; rfl)) ?_; (with_reducible refine (ranges_Normal.calls _ _ y153 t157 _ ?side1 ?side2 A19.out).mono ?_); (case side1 => repeat (first | exact (Kd.C_below HR156.out HB.out) | (with_reducible refine Kd.C_alloc ?_ _) | (with_reducible refine Kd.C_drewN ?_ _) | (with_reducible refine Kd.C_drew ?_))); (case side2 => exact HC156.out); rintro e w21 ⟨v158, rfl, ho0, hb⟩; refine ⟨_, rfl, ?_⟩; have n0_ := Aside0.mk (Kd.R_elder' (by (with_reducible repeat (first | apply Kd.R_alloc | apply Kd.R_drewN | apply Kd.R_drew)); exact HO_5.out) (Kd.R_base ho0) hb); have n1_ := Aside0.mk (Kd.R_lower (Kd.R_new' ho0 (Kd.R_lt (by (with_reducible repeat (first | apply Kd.R_alloc | apply Kd.R_drewN | apply Kd.R_drew)); exact HO_5.out))) (below_size (by repeat (first | (with_reducible first | exact HB.out | apply below_alloc | apply pw_below_drewN | apply below_drew1) | exact HB.out)))); have n2_ := Aside0.mk (below_step (by repeat (first | (with_reducible first | exact HB.out | apply below_alloc | apply pw_below_drewN | apply below_drew1) | exact HB.out)) hb); clear HO_5; clear HB; have HO_5 := n0_; have HO159 := n1_; have HB := n2_; clear n0_ n1_ n2_; (try clear hb); (try clear hb2); (try clear hk); (try clear hi); (try clear ho0)))
                go_loopg [7, 8] k1 (fun kq v7 v8 w' => ∃ (x7_2 : List (S24)) (x8_2 : Int), v8 = .int .i64 x8_2 ∧ Aside0 (thermographlaw16_RangesOrder.l1 kq l0 x5_1 x7_2 x8_2 = some r) ∧ Aside0 (kq ≤ k1) ∧ Aside0 (Kd.R k24 24 w' w.heap.size (fun k_ => some k_ ≠ (v7 : Value).ownBlock) u5 x5_1) ∧ Aside0 (Kd.R k24 24 w' w.heap.size (fun k_ => some k_ ≠ (u5 : Value).ownBlock) v7 x7_2) ∧ Aside0 (Below w.heap.size w w'))
                case atStart => exact ⟨(t157), (ji16), (by first | rfl | (simp; done) | (simp only [← hji16] <;> (first | rfl | simp)) | (simp [*]; done)), H', ⟨Nat.le_refl _⟩, ⟨by (with_reducible repeat (first | apply Kd.R_alloc | apply Kd.R_drewN | apply Kd.R_drew)); exact Kd.R_mono HO_5.out (fun _ hk => hk.2)⟩, ⟨by (with_reducible repeat (first | apply Kd.R_alloc | apply Kd.R_drewN | apply Kd.R_drew)); exact Kd.R_mono HO159.out (fun _ hk => hk.2)⟩, ⟨by repeat (first | (with_reducible first | exact HB.out | apply below_alloc | apply pw_below_drewN | apply below_drew1) | exact HB.out)⟩⟩
                case round =>
                  clear H'
                  try clear c1
                  try clear p1
                  try clear q1
                  try clear hx1
                  try clear c2
                  try clear p2
                  try clear q2
                  try clear c3
                  try clear c3b0
                  try clear c3b1
                  try clear c6
                  try clear c6b0
                  try clear p6
                  try clear c7
                  try clear c7b0
                  try clear c8
                  try clear c8b0
                  try clear c9
                  try clear p14
                  try clear q14
                  try clear hx14
                  try clear c15
                  try clear c15b0
                  try clear c15b1
                  try clear c17
                  try clear c17b0
                  try clear c17b1
                  try clear c18
                  try clear c18b0
                  try clear c18b1
                  try clear q20
                  try clear hx145_0
                  try clear hx145_1
                  try clear hx146_0
                  try clear hx146_1
                  try clear p145
                  try clear p146
                  try clear p2
                  try clear q145
                  try clear q146
                  try clear q20
                  obtain ⟨x7_2, x8_2, rfl, HA, HK2, HO_5, HO_7, HB⟩ := hrel
                  cases gk with
                  | zero => exact absurd HA.out (by simp [thermographlaw16_RangesOrder.l1])
                  | succ k2 =>
                    have H := HA.out
                    clear HA
                    simp only [thermographlaw16_RangesOrder.l1] at H
                    by_cases c22 : x8_2 < (l0.length : Int)
                    · rw [if_pos c22] at H
                      have c22b0 : decide (x8_2 < (l0.length : Int)) = true := decide_eq_true c22
                      clear c22
                      by_cases c23 : 0 ≤ x8_2
                      · rw [if_pos c23] at H
                        have c23b0 : decide (0 ≤ x8_2) = true := decide_eq_true c23
                        clear c23
                        replace H := Option.bind_eq_some_iff.mp H
                        obtain ⟨t161, A240, H⟩ := H
                        replace H : (thermographlaw16_RangesOrder.l1 k2 l0 x5_1 t161 (wrap64 (x8_2 + 1))) = some r := H
                        have A24 := Aside0.mk A240
                        clear A240
                        have H' := Aside0.mk H
                        clear H
                        have p160 : 0 ≤ (x8_2 : Int) := of_decide_eq_true (by first | (with_reducible assumption) | assumption)
                        have q160 : x8_2 < (l0.length : Int) := of_decide_eq_true (by first | (with_reducible assumption) | assumption)
                        obtain ⟨ad160, e160, hx160_0, hx160_1⟩ := at_T24 HR0.out x8_2 p160 q160
                        cases e160
                        replace hx160_0 := (HB.out.cell (World.block_lt_of_cell? w _ hx160_0)).trans hx160_0
                        replace hx160_1 := (HB.out.cell (World.block_lt_of_cell? w _ hx160_1)).trans hx160_1
                        replace p160 := eq_true p160
                        replace q160 := eq_true q160
                        obtain ⟨Ao25, co25, eo25⟩ := Kd.R_slice HO_7.out
                        subst eo25
                        go_wp2_with (first | ((with_reducible refine gate_callee (f := 9) rfl ?_); refine goesL_ (some 61) rfl rfl Try.func9 (by kernel_rfl) rfl #[.slice Ao25 x7_2.length co25, .agg #[.int .i64 ((rd_T24 l0 x8_2).f0), .int .i64 ((rd_T24 l0 x8_2).f1)]] rfl (by (try simp only [List.map_toArray, List.map_cons, List.map_nil]); first | done | rfl | (simp only [List.length_drop, List.length_take]; rfl)) ?_; (with_reducible refine (ranges_Add.calls _ _ x7_2 ((rd_T24 l0 x8_2).f0) ((rd_T24 l0 x8_2).f1) t161 _ ?side1 ?side2 A24.out).mono ?_); (case side1 => repeat (first | exact (Kd.R_reads' HO_7.out).2.2 | (with_reducible refine Kd.C_alloc ?_ _) | (with_reducible refine Kd.C_drewN ?_ _) | (with_reducible refine Kd.C_drew ?_))); (case side2 => exact (Kd.R_reads' HO_7.out).2.1); rintro e w26 ⟨v162, rfl, ho0, hb⟩; refine ⟨_, rfl, ?_⟩; have n0_ := Aside0.mk (Kd.R_elder' (by (with_reducible repeat (first | apply Kd.R_alloc | apply Kd.R_drewN | apply Kd.R_drew)); exact HO_5.out) (Kd.R_base ho0) hb); have n1_ := Aside0.mk (Kd.R_elder' (by (with_reducible repeat (first | apply Kd.R_alloc | apply Kd.R_drewN | apply Kd.R_drew)); exact HO_7.out) (Kd.R_base ho0) hb); have n2_ := Aside0.mk (Kd.R_lower (Kd.R_new' (Kd.R_new' ho0 (Kd.R_lt (by (with_reducible repeat (first | apply Kd.R_alloc | apply Kd.R_drewN | apply Kd.R_drew)); exact HO_5.out))) (Kd.R_lt (by (with_reducible repeat (first | apply Kd.R_alloc | apply Kd.R_drewN | apply Kd.R_drew)); exact HO_7.out))) (below_size (by repeat (first | (with_reducible first | exact HB.out | apply below_alloc | apply pw_below_drewN | apply below_drew1) | exact HB.out)))); have n3_ := Aside0.mk (below_step (by repeat (first | (with_reducible first | exact HB.out | apply below_alloc | apply pw_below_drewN | apply below_drew1) | exact HB.out)) hb); clear HO_5; clear HO_7; clear HB; have HO_5 := n0_; have HO_7 := n1_; have HO163 := n2_; have HB := n3_; clear n0_ n1_ n2_ n3_; (try clear hb); (try clear hb2); (try clear hk); (try clear hi); (try clear ho0)))
                        go_roundg k2
                        case measure => have := HK1.out; have := HK2.out; omega
                        case rel => exact ⟨(t161), (wrap64 (x8_2 + 1)), (by first | rfl | (simp; done) | (simp [*]; done)), H', ⟨by have := HK1.out; have := HK2.out; omega⟩, ⟨by (with_reducible repeat (first | apply Kd.R_alloc | apply Kd.R_drewN | apply Kd.R_drew)); exact Kd.R_mono HO_5.out (fun _ hk => hk.2)⟩, ⟨by (with_reducible repeat (first | apply Kd.R_alloc | apply Kd.R_drewN | apply Kd.R_drew)); exact Kd.R_mono HO163.out (fun _ hk => hk.1.2)⟩, ⟨by repeat (first | (with_reducible first | exact HB.out | apply below_alloc | apply pw_below_drewN | apply below_drew1) | exact HB.out)⟩⟩
                      · rw [if_neg c23] at H
                        exact absurd H (by simp)
                    · rw [if_neg c22] at H
                      have c22b0 : decide (x8_2 < (l0.length : Int)) = false := decide_eq_false c22
                      clear c22
                      replace H := Option.bind_eq_some_iff.mp H
                      obtain ⟨t164, A270, H⟩ := H
                      replace H : ((ranges_Normal.f x5_1).bind fun t167 => ((thermographlaw16_same.f k2 t167 t164).bind fun t170 => (if t170 = true then ((thermographlaw16_same.f k2 x7_2 t164).bind fun t171 => (some t171)) else (some false)))) = some r := H
                      have A27 := Aside0.mk A270
                      clear A270
                      replace H := Option.bind_eq_some_iff.mp H
                      obtain ⟨t167, A280, H⟩ := H
                      replace H : ((thermographlaw16_same.f k2 t167 t164).bind fun t170 => (if t170 = true then ((thermographlaw16_same.f k2 x7_2 t164).bind fun t171 => (some t171)) else (some false))) = some r := H
                      have A28 := Aside0.mk A280
                      clear A280
                      replace H := Option.bind_eq_some_iff.mp H
                      obtain ⟨t170, A290, H⟩ := H
                      replace H : (if t170 = true then ((thermographlaw16_same.f k2 x7_2 t164).bind fun t171 => (some t171)) else (some false)) = some r := H
                      have A29 := Aside0.mk A290
                      clear A290
                      by_cases c30 : t170 = true
                      · subst c30
                        have H1 : ((thermographlaw16_same.f k2 x7_2 t164).bind fun t171 => (some t171)) = some r := by rw [if_pos rfl] at H; exact H
                        clear H
                        have H := H1
                        clear H1
                        replace H := Option.bind_eq_some_iff.mp H
                        obtain ⟨t171, A310, H⟩ := H
                        replace H : (some t171) = some r := H
                        have A31 := Aside0.mk A310
                        clear A310
                        obtain rfl := Option.some.inj H
                        go_wp2_with (first | ((with_reducible refine gate_callee (f := 10) rfl ?_); refine goesL_ (some 63) rfl rfl Try.func10 (by kernel_rfl) rfl #[.slice A0 l0.length c0] rfl (by (try simp only [List.map_toArray, List.map_cons, List.map_nil]); first | done | rfl | (simp only [List.length_drop, List.length_take]; rfl)) ?_; (with_reducible refine (thermographref16_Normal.calls k2 _ _ l0 t164 _ ?side1 ?side2 A27.out).mono ?_); (case side1 => repeat (first | exact (Kd.C_below HR0.out HB.out) | (with_reducible refine Kd.C_alloc ?_ _) | (with_reducible refine Kd.C_drewN ?_ _) | (with_reducible refine Kd.C_drew ?_))); (case side2 => exact HC0.out); rintro e w32 ⟨v165, rfl, ho0, hb⟩; refine ⟨_, rfl, ?_⟩; have n0_ := Aside0.mk (Kd.R_elder' (by (with_reducible repeat (first | apply Kd.R_alloc | apply Kd.R_drewN | apply Kd.R_drew)); exact HO_5.out) (Kd.R_base ho0) hb); have n1_ := Aside0.mk (Kd.R_elder' (by (with_reducible repeat (first | apply Kd.R_alloc | apply Kd.R_drewN | apply Kd.R_drew)); exact HO_7.out) (Kd.R_base ho0) hb); have n2_ := Aside0.mk (Kd.R_lower (Kd.R_new' (Kd.R_new' ho0 (Kd.R_lt (by (with_reducible repeat (first | apply Kd.R_alloc | apply Kd.R_drewN | apply Kd.R_drew)); exact HO_5.out))) (Kd.R_lt (by (with_reducible repeat (first | apply Kd.R_alloc | apply Kd.R_drewN | apply Kd.R_drew)); exact HO_7.out))) (below_size (by repeat (first | (with_reducible first | exact HB.out | apply below_alloc | apply pw_below_drewN | apply below_drew1) | exact HB.out)))); have n3_ := Aside0.mk (below_step (by repeat (first | (with_reducible first | exact HB.out | apply below_alloc | apply pw_below_drewN | apply below_drew1) | exact HB.out)) hb); clear HO_5; clear HO_7; clear HB; have HO_5 := n0_; have HO_7 := n1_; have HO166 := n2_; have HB := n3_; clear n0_ n1_ n2_ n3_; (try clear hb); (try clear hb2); (try clear hk); (try clear hi); (try clear ho0); obtain ⟨Ao33, co33, eo33⟩ := Kd.R_slice HO_5.out; subst eo33) | ((with_reducible refine gate_callee (f := 8) rfl ?_); refine goesL_ (some 65) rfl rfl Try.func8 (by kernel_rfl) rfl #[.slice Ao33 x5_1.length co33] rfl (by (try simp only [List.map_toArray, List.map_cons, List.map_nil]); first | done | rfl | (simp only [List.length_drop, List.length_take]; rfl)) ?_; (with_reducible refine (ranges_Normal.calls _ _ x5_1 t167 _ ?side1 ?side2 A28.out).mono ?_); (case side1 => repeat (first | exact (Kd.R_reads' HO_5.out).2.2 | (with_reducible refine Kd.C_alloc ?_ _) | (with_reducible refine Kd.C_drewN ?_ _) | (with_reducible refine Kd.C_drew ?_))); (case side2 => exact (Kd.R_reads' HO_5.out).2.1); rintro e w34 ⟨v168, rfl, ho0, hb⟩; refine ⟨_, rfl, ?_⟩; have n0_ := Aside0.mk (Kd.R_elder' (by (with_reducible repeat (first | apply Kd.R_alloc | apply Kd.R_drewN | apply Kd.R_drew)); exact HO_5.out) (Kd.R_base ho0) hb); have n1_ := Aside0.mk (Kd.R_elder' (by (with_reducible repeat (first | apply Kd.R_alloc | apply Kd.R_drewN | apply Kd.R_drew)); exact HO_7.out) (Kd.R_base ho0) hb); have n2_ := Aside0.mk (Kd.R_elder' (by (with_reducible repeat (first | apply Kd.R_alloc | apply Kd.R_drewN | apply Kd.R_drew)); exact HO166.out) (Kd.R_base ho0) hb); have n3_ := Aside0.mk (Kd.R_lower (Kd.R_new' (Kd.R_new' (Kd.R_new' ho0 (Kd.R_lt (by (with_reducible repeat (first | apply Kd.R_alloc | apply Kd.R_drewN | apply Kd.R_drew)); exact HO_5.out))) (Kd.R_lt (by (with_reducible repeat (first | apply Kd.R_alloc | apply Kd.R_drewN | apply Kd.R_drew)); exact HO_7.out))) (Kd.R_lt (by (with_reducible repeat (first | apply Kd.R_alloc | apply Kd.R_drewN | apply Kd.R_drew)); exact HO166.out))) (below_size (by repeat (first | (with_reducible first | exact HB.out | apply below_alloc | apply pw_below_drewN | apply below_drew1) | exact HB.out)))); have n4_ := Aside0.mk (below_step (by repeat (first | (with_reducible first | exact HB.out | apply below_alloc | apply pw_below_drewN | apply below_drew1) | exact HB.out)) hb); clear HO_5; clear HO_7; clear HO166; clear HB; have HO_5 := n0_; have HO_7 := n1_; have HO166 := n2_; have HO169 := n3_; have HB := n4_; clear n0_ n1_ n2_ n3_ n4_; (try clear hb); (try clear hb2); (try clear hk); (try clear hi); (try clear ho0); obtain ⟨Ao35, co35, eo35⟩ := Kd.R_slice HO169.out; subst eo35; obtain ⟨Ao36, co36, eo36⟩ := Kd.R_slice HO166.out; subst eo36) | ((with_reducible refine gate_callee (f := 11) rfl ?_); refine goesL_ (some 67) rfl rfl Try.func11 (by kernel_rfl) rfl #[.slice Ao35 t167.length co35, .slice Ao36 t164.length co36] rfl (by (try simp only [List.map_toArray, List.map_cons, List.map_nil]); first | done | rfl | (simp only [List.length_drop, List.length_take]; rfl)) ?_; (with_reducible refine (thermographlaw16_same.calls k2 _ _ t167 _ _ t164 true _ ?side1 ?side2 ?side3 ?side4 A29.out).mono ?_); (case side1 => repeat (first | exact (Kd.R_reads' HO169.out).2.2 | (with_reducible refine Kd.C_alloc ?_ _) | (with_reducible refine Kd.C_drewN ?_ _) | (with_reducible refine Kd.C_drew ?_))); (case side2 => exact (Kd.R_reads' HO169.out).2.1); (case side3 => repeat (first | exact (Kd.R_reads' HO166.out).2.2 | (with_reducible refine Kd.C_alloc ?_ _) | (with_reducible refine Kd.C_drewN ?_ _) | (with_reducible refine Kd.C_drew ?_))); (case side4 => exact (Kd.R_reads' HO166.out).2.1); rintro e w' ⟨rfl, ⟨nd, rfl⟩⟩; refine ⟨_, rfl, ?_⟩; obtain ⟨Ao37, co37, eo37⟩ := Kd.R_slice HO_7.out; subst eo37) | (go_at_call 11; (with_reducible refine (thermographlaw16_same.calls k2 _ _ x7_2 _ _ t164 t171 _ ?side1 ?side2 ?side3 ?side4 A31.out).mono ?_); (case side1 => repeat (first | exact (Kd.R_reads' HO_7.out).2.2 | (with_reducible refine Kd.C_alloc ?_ _) | (with_reducible refine Kd.C_drewN ?_ _) | (with_reducible refine Kd.C_drew ?_))); (case side2 => exact (Kd.R_reads' HO_7.out).2.1); (case side3 => repeat (first | exact (Kd.R_reads' HO166.out).2.2 | (with_reducible refine Kd.C_alloc ?_ _) | (with_reducible refine Kd.C_drewN ?_ _) | (with_reducible refine Kd.C_drew ?_))); (case side4 => exact (Kd.R_reads' HO166.out).2.1); rintro e w' ⟨rfl, ⟨nd, rfl⟩⟩))
                        go_ret
                        exact ⟨by first | rfl | (simp [errW_none, errW_some] <;> rfl) | (simp only [← hji16]; first | rfl | (simp [errW_none, errW_some] <;> rfl)) | (simp [*, errW_none, errW_some] <;> rfl), by repeat (first | (with_reducible first | exact HB.out | apply below_alloc | apply pw_below_drewN | apply below_drew1) | exact HB.out)⟩
                      · replace c30 := Bool.eq_false_iff.mpr c30
                        subst c30
                        have H1 : (some false) = some r := by rw [if_neg (show ¬ (false = true) by decide)] at H; exact H
                        clear H
                        have H := H1
                        clear H1
                        obtain rfl := Option.some.inj H
                        go_wp2_with (first | ((with_reducible refine gate_callee (f := 10) rfl ?_); refine goesL_ (some 63) rfl rfl Try.func10 (by kernel_rfl) rfl #[.slice A0 l0.length c0] rfl (by (try simp only [List.map_toArray, List.map_cons, List.map_nil]); first | done | rfl | (simp only [List.length_drop, List.length_take]; rfl)) ?_; (with_reducible refine (thermographref16_Normal.calls k2 _ _ l0 t164 _ ?side1 ?side2 A27.out).mono ?_); (case side1 => repeat (first | exact (Kd.C_below HR0.out HB.out) | (with_reducible refine Kd.C_alloc ?_ _) | (with_reducible refine Kd.C_drewN ?_ _) | (with_reducible refine Kd.C_drew ?_))); (case side2 => exact HC0.out); rintro e w38 ⟨v165, rfl, ho0, hb⟩; refine ⟨_, rfl, ?_⟩; have n0_ := Aside0.mk (Kd.R_elder' (by (with_reducible repeat (first | apply Kd.R_alloc | apply Kd.R_drewN | apply Kd.R_drew)); exact HO_5.out) (Kd.R_base ho0) hb); have n1_ := Aside0.mk (Kd.R_elder' (by (with_reducible repeat (first | apply Kd.R_alloc | apply Kd.R_drewN | apply Kd.R_drew)); exact HO_7.out) (Kd.R_base ho0) hb); have n2_ := Aside0.mk (Kd.R_lower (Kd.R_new' (Kd.R_new' ho0 (Kd.R_lt (by (with_reducible repeat (first | apply Kd.R_alloc | apply Kd.R_drewN | apply Kd.R_drew)); exact HO_5.out))) (Kd.R_lt (by (with_reducible repeat (first | apply Kd.R_alloc | apply Kd.R_drewN | apply Kd.R_drew)); exact HO_7.out))) (below_size (by repeat (first | (with_reducible first | exact HB.out | apply below_alloc | apply pw_below_drewN | apply below_drew1) | exact HB.out)))); have n3_ := Aside0.mk (below_step (by repeat (first | (with_reducible first | exact HB.out | apply below_alloc | apply pw_below_drewN | apply below_drew1) | exact HB.out)) hb); clear HO_5; clear HO_7; clear HB; have HO_5 := n0_; have HO_7 := n1_; have HO166 := n2_; have HB := n3_; clear n0_ n1_ n2_ n3_; (try clear hb); (try clear hb2); (try clear hk); (try clear hi); (try clear ho0); obtain ⟨Ao39, co39, eo39⟩ := Kd.R_slice HO_5.out; subst eo39) | ((with_reducible refine gate_callee (f := 8) rfl ?_); refine goesL_ (some 65) rfl rfl Try.func8 (by kernel_rfl) rfl #[.slice Ao39 x5_1.length co39] rfl (by (try simp only [List.map_toArray, List.map_cons, List.map_nil]); first | done | rfl | (simp only [List.length_drop, List.length_take]; rfl)) ?_; (with_reducible refine (ranges_Normal.calls _ _ x5_1 t167 _ ?side1 ?side2 A28.out).mono ?_); (case side1 => repeat (first | exact (Kd.R_reads' HO_5.out).2.2 | (with_reducible refine Kd.C_alloc ?_ _) | (with_reducible refine Kd.C_drewN ?_ _) | (with_reducible refine Kd.C_drew ?_))); (case side2 => exact (Kd.R_reads' HO_5.out).2.1); rintro e w40 ⟨v168, rfl, ho0, hb⟩; refine ⟨_, rfl, ?_⟩; have n0_ := Aside0.mk (Kd.R_elder' (by (with_reducible repeat (first | apply Kd.R_alloc | apply Kd.R_drewN | apply Kd.R_drew)); exact HO_5.out) (Kd.R_base ho0) hb); have n1_ := Aside0.mk (Kd.R_elder' (by (with_reducible repeat (first | apply Kd.R_alloc | apply Kd.R_drewN | apply Kd.R_drew)); exact HO_7.out) (Kd.R_base ho0) hb); have n2_ := Aside0.mk (Kd.R_elder' (by (with_reducible repeat (first | apply Kd.R_alloc | apply Kd.R_drewN | apply Kd.R_drew)); exact HO166.out) (Kd.R_base ho0) hb); have n3_ := Aside0.mk (Kd.R_lower (Kd.R_new' (Kd.R_new' (Kd.R_new' ho0 (Kd.R_lt (by (with_reducible repeat (first | apply Kd.R_alloc | apply Kd.R_drewN | apply Kd.R_drew)); exact HO_5.out))) (Kd.R_lt (by (with_reducible repeat (first | apply Kd.R_alloc | apply Kd.R_drewN | apply Kd.R_drew)); exact HO_7.out))) (Kd.R_lt (by (with_reducible repeat (first | apply Kd.R_alloc | apply Kd.R_drewN | apply Kd.R_drew)); exact HO166.out))) (below_size (by repeat (first | (with_reducible first | exact HB.out | apply below_alloc | apply pw_below_drewN | apply below_drew1) | exact HB.out)))); have n4_ := Aside0.mk (below_step (by repeat (first | (with_reducible first | exact HB.out | apply below_alloc | apply pw_below_drewN | apply below_drew1) | exact HB.out)) hb); clear HO_5; clear HO_7; clear HO166; clear HB; have HO_5 := n0_; have HO_7 := n1_; have HO166 := n2_; have HO169 := n3_; have HB := n4_; clear n0_ n1_ n2_ n3_ n4_; (try clear hb); (try clear hb2); (try clear hk); (try clear hi); (try clear ho0); obtain ⟨Ao41, co41, eo41⟩ := Kd.R_slice HO169.out; subst eo41; obtain ⟨Ao42, co42, eo42⟩ := Kd.R_slice HO166.out; subst eo42) | ((with_reducible refine gate_callee (f := 11) rfl ?_); refine goesL_ (some 67) rfl rfl Try.func11 (by kernel_rfl) rfl #[.slice Ao41 t167.length co41, .slice Ao42 t164.length co42] rfl (by (try simp only [List.map_toArray, List.map_cons, List.map_nil]); first | done | rfl | (simp only [List.length_drop, List.length_take]; rfl)) ?_; (with_reducible refine (thermographlaw16_same.calls k2 _ _ t167 _ _ t164 false _ ?side1 ?side2 ?side3 ?side4 A29.out).mono ?_); (case side1 => repeat (first | exact (Kd.R_reads' HO169.out).2.2 | (with_reducible refine Kd.C_alloc ?_ _) | (with_reducible refine Kd.C_drewN ?_ _) | (with_reducible refine Kd.C_drew ?_))); (case side2 => exact (Kd.R_reads' HO169.out).2.1); (case side3 => repeat (first | exact (Kd.R_reads' HO166.out).2.2 | (with_reducible refine Kd.C_alloc ?_ _) | (with_reducible refine Kd.C_drewN ?_ _) | (with_reducible refine Kd.C_drew ?_))); (case side4 => exact (Kd.R_reads' HO166.out).2.1); rintro e w' ⟨rfl, ⟨nd, rfl⟩⟩; refine ⟨_, rfl, ?_⟩))
                        go_ret
                        exact ⟨by first | rfl | (simp [errW_none, errW_some] <;> rfl) | (simp only [← hji16]; first | rfl | (simp [errW_none, errW_some] <;> rfl)) | (simp [*, errW_none, errW_some] <;> rfl), by repeat (first | (with_reducible first | exact HB.out | apply below_alloc | apply pw_below_drewN | apply below_drew1) | exact HB.out)⟩
              · rw [if_neg c18] at H
                exact absurd H (by simp)
            · rw [if_neg c17] at H
              exact absurd H (by simp)

-- NOT PRINTED: function 30 (api_Range_30)

end Go.Proofs.Ythdieelceafidaa.G
