/- The plain Lean functions of the seat's Go functions and, for each, that the Go call does what it does; written by a program of this session after the kit's print. -/
import Derived.Test.YteeimkafcadinaaBx0
namespace Go.Proofs.Yteeimkafcadinaa.B
open Go.RowKit Go.Proofs.YteeimkafcadinaaW.PrintWords Go.Proofs.YteeimkafcadinaaW.PrintLast Go.Proofs.YteeimkafcadinaaW.PrintMore
attribute [local go_sem] max2_int min2_int max_two min_two max_three min_three max_four min_four   -- for this text's walks alone
set_option linter.unusedVariables false
set_option linter.unusedSimpArgs false

/-! ### thermographlaw07_heavy: function 8 -/
def thermographlaw07_heavy.l0 : Nat → List ByteArray → Int → Int → Option (Bool)
  | 0, _, _, _ => none
  | k + 1, x0, x3, x4 => if x4 < (x0.length : Int) then (if x3 ≤ 16384 then (if 0 ≤ x4 then (thermographlaw07_heavy.l0 k x0 (wrap64 (x3 + (mn ((rdOf ByteArray.empty x0 x4).size : Int) 1048576))) (wrap64 (x4 + 1))) else (none)) else (some (decide (x3 > 16384)))) else (some (decide (x3 > 16384)))
def thermographlaw07_heavy.f (k : Nat) (l0 : List ByteArray) : Option (Bool) := thermographlaw07_heavy.l0 k l0 (l0.length : Int) 0
theorem thermographlaw07_heavy.mono_l : ∀ k, (∀ y0 y1 y2, LeO (thermographlaw07_heavy.l0 k y0 y1 y2) (thermographlaw07_heavy.l0 (k + 1) y0 y1 y2))
  | 0 => fun _ _ _ r h => by simp [thermographlaw07_heavy.l0] at h
  | k + 1 => by
    have ih0 := thermographlaw07_heavy.mono_l k
    · intro y0 y1 y2
      unfold thermographlaw07_heavy.l0
      repeat' first
      | (with_reducible exact ih0 _ _ _)
      | (with_reducible exact LeO.refl _)
      | (with_reducible exact LeO.none _)
      | (with_reducible refine LeO.ite ?_ ?_)
      | (with_reducible refine LeO.bind ?_ (fun _ => ?_))
      | exact ih0 _ _ _
      | exact LeO.none _
      | refine LeO.ite ?_ ?_
      | refine LeO.bind ?_ (fun _ => ?_)
theorem thermographlaw07_heavy.mono : ∀ a0 k, LeO (thermographlaw07_heavy.f k a0) (thermographlaw07_heavy.f (k + 1) a0) := by
  intro a0 k
  have ih0 := thermographlaw07_heavy.mono_l k
  unfold thermographlaw07_heavy.f
  repeat' first
      | (with_reducible exact ih0 _ _ _)
      | (with_reducible exact LeO.refl _)
      | (with_reducible exact LeO.none _)
      | (with_reducible refine LeO.ite ?_ ?_)
      | (with_reducible refine LeO.bind ?_ (fun _ => ?_))
      | exact ih0 _ _ _
      | exact LeO.none _
      | refine LeO.ite ?_ ?_
      | refine LeO.bind ?_ (fun _ => ?_)
set_option maxHeartbeats 8000000 in
set_option maxRecDepth 100000 in
theorem thermographlaw07_heavy.calls (k : Nat) (A0 : Option Addr) (c0 : Nat) (l0 : List ByteArray) (r : Bool) (w : World) (hr0 : Kd.C Kd.string w A0 l0.length l0) (hc0 : l0.length ≤ c0) (h : thermographlaw07_heavy.f k l0 = some r) :
    Calls Try.prog 8 #[.slice A0 l0.length c0] w fun e w' => e = .returned (.bool r) ∧ Below w.heap.size w w' := by
  have HR0 := Aside0.mk hr0
  have HC0 := Aside0.mk hc0
  clear hr0 hc0
  have HB := Aside0.mk (Below.refl w.heap.size w)
  have H : (thermographlaw07_heavy.l0 k l0 (l0.length : Int) 0) = some r := h
  clear h
  have H' := Aside0.mk H
  clear H
  go_enter Try.func8, Try.ntmps8
  go_wp2
  go_loopg [3, 4] k (fun kq v3 v4 w' => ∃ (x3_1 : Int) (x4_1 : Int), v3 = .int .i64 x3_1 ∧ v4 = .int .i64 x4_1 ∧ Aside0 (thermographlaw07_heavy.l0 kq l0 x3_1 x4_1 = some r) ∧ Aside0 (kq ≤ k) ∧ Aside0 (Below w.heap.size w w'))
  case atStart => exact ⟨((l0.length : Int)), (0), (by first | rfl | (simp; done) | (simp [*]; done)), (by first | rfl | (simp; done) | (simp [*]; done)), H', ⟨Nat.le_refl _⟩, ⟨by repeat (first | (with_reducible first | exact HB.out | apply below_alloc | apply pw_below_drewN | apply below_drew1) | exact HB.out)⟩⟩
  case round =>
    clear H'
    obtain ⟨x3_1, x4_1, rfl, rfl, HA, HK1, HB⟩ := hrel
    cases gk with
    | zero => exact absurd HA.out (by simp [thermographlaw07_heavy.l0])
    | succ k1 =>
      have H := HA.out
      clear HA
      simp only [thermographlaw07_heavy.l0] at H
      by_cases c2 : x4_1 < (l0.length : Int)
      · rw [if_pos c2] at H
        have c2b0 : decide (x4_1 < (l0.length : Int)) = true := decide_eq_true c2
        clear c2
        by_cases c3 : x3_1 ≤ 16384
        · rw [if_pos c3] at H
          have c3b0 : decide (x3_1 ≤ 16384) = true := decide_eq_true c3
          clear c3
          by_cases c4 : 0 ≤ x4_1
          · rw [if_pos c4] at H
            have c4b0 : decide (0 ≤ x4_1) = true := decide_eq_true c4
            clear c4
            obtain ⟨ji5, hji5⟩ : ∃ j_ : Int, (mn ((rdOf ByteArray.empty l0 x4_1).size : Int) 1048576) = j_ := ⟨_, rfl⟩
            replace H : (thermographlaw07_heavy.l0 k1 l0 (wrap64 (x3_1 + (ji5))) (wrap64 (x4_1 + 1))) = some r := by first | (rw [hji5] at H; exact H) | (simp only [hji5] at H ⊢; exact H)
            have hji5_ : (if 1048576 < ((rdOf ByteArray.empty l0 x4_1).size : Int) then 1048576 else ((rdOf ByteArray.empty l0 x4_1).size : Int)) = ji5 := hji5
            have H' := Aside0.mk H
            clear H
            have p101 : 0 ≤ (x4_1 : Int) := of_decide_eq_true (by first | (with_reducible assumption) | assumption)
            have q101 : x4_1 < (l0.length : Int) := of_decide_eq_true (by first | (with_reducible assumption) | assumption)
            obtain ⟨ad101, e101, hx101_0⟩ := Kd.at_string HR0.out x4_1 p101 q101
            cases e101
            replace hx101_0 := (HB.out.cell (World.block_lt_of_cell? w _ hx101_0)).trans hx101_0
            replace p101 := eq_true p101
            replace q101 := eq_true q101
            go_wp2
            go_roundg k1
            case measure => have := HK1.out; omega
            case rel => exact ⟨(wrap64 (x3_1 + (ji5))), (wrap64 (x4_1 + 1)), (by first | rfl | (simp; done) | (simp only [← hji5] <;> (first | rfl | simp)) | (simp [*]; done)), (by first | rfl | (simp; done) | (simp [*]; done)), H', ⟨by have := HK1.out; omega⟩, ⟨by repeat (first | (with_reducible first | exact HB.out | apply below_alloc | apply pw_below_drewN | apply below_drew1) | exact HB.out)⟩⟩
          · rw [if_neg c4] at H
            exact absurd H (by simp)
        · rw [if_neg c3] at H
          have c3b0 : decide (x3_1 ≤ 16384) = false := decide_eq_false c3
          clear c3
          obtain rfl := Option.some.inj H
          go_wp2
          go_ret
          exact ⟨by first | rfl | (simp [errW_none, errW_some] <;> rfl) | (simp [*, errW_none, errW_some] <;> rfl), by repeat (first | (with_reducible first | exact HB.out | apply below_alloc | apply pw_below_drewN | apply below_drew1) | exact HB.out)⟩
      · rw [if_neg c2] at H
        have c2b0 : decide (x4_1 < (l0.length : Int)) = false := decide_eq_false c2
        clear c2
        obtain rfl := Option.some.inj H
        go_wp2
        go_ret
        exact ⟨by first | rfl | (simp [errW_none, errW_some] <;> rfl) | (simp [*, errW_none, errW_some] <;> rfl), by repeat (first | (with_reducible first | exact HB.out | apply below_alloc | apply pw_below_drewN | apply below_drew1) | exact HB.out)⟩

-- NOT PRINTED: function 16 (bloom_Filter_places)

-- NOT PRINTED: function 9 (bloom_Build)

-- NOT PRINTED: function 17 (bytes_Clone)

-- NOT PRINTED: function 10 (bloom_Filter_Bytes)

-- NOT PRINTED: function 13 (bloom_Filter_Has)

/-! ### thermographref04_left: function 24 -/
def thermographref04_left.f (a0 : Int) (a1 : Int) : Option (Int) := if 0 ≤ a1 then (if 0 ≤ (wrap64 (32 - a1)) then (some (Go.bits .or .u32 (shl .u32 a0 a1) (shr .u32 a0 (wrap64 (32 - a1))))) else (none)) else (none)
set_option maxHeartbeats 8000000 in
set_option maxRecDepth 100000 in
theorem thermographref04_left.calls (a0 : Int) (a1 : Int) (r : Int) (w : World) (h : thermographref04_left.f a0 a1 = some r) :
    Calls Try.prog 24 #[.int .u32 a0, .int .i64 a1] w fun e w' => e = .returned (.int .u32 r) ∧ Drawn0 w w' := by
  have H : (if 0 ≤ a1 then (if 0 ≤ (wrap64 (32 - a1)) then (some (Go.bits .or .u32 (shl .u32 a0 a1) (shr .u32 a0 (wrap64 (32 - a1))))) else (none)) else (none)) = some r := h
  clear h
  by_cases c3 : 0 ≤ a1
  · rw [if_pos c3] at H
    have c3b0 := eq_true c3
    have c3b1 : decide (0 ≤ a1) = true := decide_eq_true c3
    clear c3
    obtain ⟨ji4, hji4⟩ : ∃ j_ : Int, (shl .u32 a0 a1) = j_ := ⟨_, rfl⟩
    replace H : (if 0 ≤ (wrap64 (32 - a1)) then (some (Go.bits .or .u32 (ji4) (shr .u32 a0 (wrap64 (32 - a1))))) else (none)) = some r := by first | (rw [hji4] at H; exact H) | (simp only [hji4] at H ⊢; exact H)
    have hji4_ : (IntKind.u32.wrap (a0 * 2 ^ min a1.toNat 32)) = ji4 := hji4
    have hji4z : a1 ≤ 32 → (IntKind.u32.wrap (a0 * 2 ^ a1.toNat)) = ji4 := shl_small hji4
    obtain ⟨ji5, hji5⟩ : ∃ j_ : Int, (wrap64 (32 - a1)) = j_ := ⟨_, rfl⟩
    replace H : (if 0 ≤ (ji5) then (some (Go.bits .or .u32 (ji4) (shr .u32 a0 (ji5)))) else (none)) = some r := by first | (rw [hji5] at H; exact H) | (simp only [hji5] at H ⊢; exact H)
    have hji5w : (IntKind.i64.wrap (32 - a1)) = ji5 := (i64_w _).trans hji5
    by_cases c6 : 0 ≤ (ji5)
    · rw [if_pos c6] at H
      have c6b0 := eq_true c6
      have c6b1 : decide (0 ≤ (ji5)) = true := decide_eq_true c6
      clear c6
      obtain ⟨ji7, hji7⟩ : ∃ j_ : Int, (shr .u32 a0 (ji5)) = j_ := ⟨_, rfl⟩
      replace H : (some (Go.bits .or .u32 (ji4) (ji7))) = some r := by first | (rw [hji7] at H; exact H) | (simp only [hji7] at H ⊢; exact H)
      have hji7_ : (a0 / 2 ^ min (ji5).toNat 32) = ji7 := hji7
      have hji7z : (ji5) ≤ 32 → (a0 / 2 ^ (ji5).toNat) = ji7 := shr_small hji7
      obtain rfl := Option.some.inj H
      go_enter Try.func24, Try.ntmps24
      go_wp2
      repeat (go_quiet (fail); try go_wp2)
      go_ret
      exact ⟨by first | rfl | (simp; done) | (simp only [← hji4, ← hji5, ← hji7] <;> (first | rfl | simp)) | (simp [*]; done), by repeat (first | exact Drawn0.refl _ | apply Drawn0.step)⟩
    · rw [if_neg c6] at H
      exact absurd H (by simp)
  · rw [if_neg c3] at H
    exact absurd H (by simp)

/-! ### thermographref04_mixed: function 25 -/
def thermographref04_mixed.f (a0 : Int) : Option (Int) := (thermographref04_left.f ((a0 * 3432918353) % 4294967296) 15).bind fun t102 => (some ((t102 * 461845907) % 4294967296))
set_option maxHeartbeats 8000000 in
set_option maxRecDepth 100000 in
theorem thermographref04_mixed.calls (a0 : Int) (r : Int) (w : World) (h : thermographref04_mixed.f a0 = some r) :
    Calls Try.prog 25 #[.int .u32 a0] w fun e w' => e = .returned (.int .u32 r) ∧ Drawn0 w w' := by
  have H : ((thermographref04_left.f ((a0 * 3432918353) % 4294967296) 15).bind fun t102 => (some ((t102 * 461845907) % 4294967296))) = some r := h
  clear h
  replace H := Option.bind_eq_some_iff.mp H
  obtain ⟨t102, A20, H⟩ := H
  replace H : (some ((t102 * 461845907) % 4294967296)) = some r := H
  have A2 := Aside0.mk A20
  clear A20
  obtain rfl := Option.some.inj H
  go_enter Try.func25, Try.ntmps25
  go_wp2_with (first | ((with_reducible refine gate_callee (f := 24) rfl ?_); refine goesL_ (some 5) rfl rfl Try.func24 (by kernel_rfl) rfl #[.int .u32 ((a0 * 3432918353) % 4294967296), .int .i64 15] rfl (by (try simp only [List.map_toArray, List.map_cons, List.map_nil]); first | done | rfl | (simp only [List.length_drop, List.length_take]; rfl)) ?_; (with_reducible refine (thermographref04_left.calls ((a0 * 3432918353) % 4294967296) 15 t102 _ A2.out).mono ?_); rintro e w' ⟨rfl, ⟨nd, rfl⟩⟩; refine ⟨_, rfl, ?_⟩))
  go_ret
  exact ⟨by first | rfl | (simp; done) | (simp [*]; done), by repeat (first | exact Drawn0.refl _ | apply Drawn0.step)⟩

/-! ### thermographref04_Murmur: function 21 -/
def thermographref04_Murmur.l0 : Nat → List Int → Int → Int → Int → Option (Int)
  | 0, _, _, _, _ => none
  | k + 1, x0, x5, x6, x7 => if x7 < (x0.length : Int) then (if 0 ≤ x7 then (if 0 ≤ (wrap64 (8 * (Int.tmod x7 4))) then (if (Int.tmod x7 4) = 3 then ((thermographref04_mixed.f (Go.bits .or .u32 x6 (shl .u32 ((rd x0 x7) % 4294967296) (wrap64 (8 * (Int.tmod x7 4)))))).bind fun t105 => ((thermographref04_left.f (Go.bits .xor .u32 x5 t105) 13).bind fun t106 => (thermographref04_Murmur.l0 k x0 ((((t106 * 5) % 4294967296) + 3864292196) % 4294967296) 0 (wrap64 (x7 + 1))))) else (thermographref04_Murmur.l0 k x0 x5 (Go.bits .or .u32 x6 (shl .u32 ((rd x0 x7) % 4294967296) (wrap64 (8 * (Int.tmod x7 4))))) (wrap64 (x7 + 1)))) else (none)) else (none)) else (if ((x0.length : Int) % 4) = 0 then (some (Go.bits .xor .u32 (((Go.bits .xor .u32 (((Go.bits .xor .u32 (Go.bits .xor .u32 x5 (((x0.length : Int)) % 4294967296)) ((Go.bits .xor .u32 x5 (((x0.length : Int)) % 4294967296)) / 65536)) * 2246822507) % 4294967296) ((((Go.bits .xor .u32 (Go.bits .xor .u32 x5 (((x0.length : Int)) % 4294967296)) ((Go.bits .xor .u32 x5 (((x0.length : Int)) % 4294967296)) / 65536)) * 2246822507) % 4294967296) / 8192)) * 3266489909) % 4294967296) ((((Go.bits .xor .u32 (((Go.bits .xor .u32 (Go.bits .xor .u32 x5 (((x0.length : Int)) % 4294967296)) ((Go.bits .xor .u32 x5 (((x0.length : Int)) % 4294967296)) / 65536)) * 2246822507) % 4294967296) ((((Go.bits .xor .u32 (Go.bits .xor .u32 x5 (((x0.length : Int)) % 4294967296)) ((Go.bits .xor .u32 x5 (((x0.length : Int)) % 4294967296)) / 65536)) * 2246822507) % 4294967296) / 8192)) * 3266489909) % 4294967296) / 65536))) else ((thermographref04_mixed.f x6).bind fun t103 => (some (Go.bits .xor .u32 (((Go.bits .xor .u32 (((Go.bits .xor .u32 (Go.bits .xor .u32 (Go.bits .xor .u32 x5 t103) (((x0.length : Int)) % 4294967296)) ((Go.bits .xor .u32 (Go.bits .xor .u32 x5 t103) (((x0.length : Int)) % 4294967296)) / 65536)) * 2246822507) % 4294967296) ((((Go.bits .xor .u32 (Go.bits .xor .u32 (Go.bits .xor .u32 x5 t103) (((x0.length : Int)) % 4294967296)) ((Go.bits .xor .u32 (Go.bits .xor .u32 x5 t103) (((x0.length : Int)) % 4294967296)) / 65536)) * 2246822507) % 4294967296) / 8192)) * 3266489909) % 4294967296) ((((Go.bits .xor .u32 (((Go.bits .xor .u32 (Go.bits .xor .u32 (Go.bits .xor .u32 x5 t103) (((x0.length : Int)) % 4294967296)) ((Go.bits .xor .u32 (Go.bits .xor .u32 x5 t103) (((x0.length : Int)) % 4294967296)) / 65536)) * 2246822507) % 4294967296) ((((Go.bits .xor .u32 (Go.bits .xor .u32 (Go.bits .xor .u32 x5 t103) (((x0.length : Int)) % 4294967296)) ((Go.bits .xor .u32 (Go.bits .xor .u32 x5 t103) (((x0.length : Int)) % 4294967296)) / 65536)) * 2246822507) % 4294967296) / 8192)) * 3266489909) % 4294967296) / 65536)))))
def thermographref04_Murmur.f (k : Nat) (l0 : List Int) (a1 : Int) : Option (Int) := thermographref04_Murmur.l0 k l0 a1 0 0
theorem thermographref04_Murmur.mono_l : ∀ k, (∀ y0 y1 y2 y3, LeO (thermographref04_Murmur.l0 k y0 y1 y2 y3) (thermographref04_Murmur.l0 (k + 1) y0 y1 y2 y3))
  | 0 => fun _ _ _ _ r h => by simp [thermographref04_Murmur.l0] at h
  | k + 1 => by
    have ih0 := thermographref04_Murmur.mono_l k
    · intro y0 y1 y2 y3
      unfold thermographref04_Murmur.l0
      repeat' first
      | (with_reducible exact ih0 _ _ _ _)
      | (with_reducible exact LeO.refl _)
      | (with_reducible exact LeO.none _)
      | (with_reducible refine LeO.ite ?_ ?_)
      | (with_reducible refine LeO.bind ?_ (fun _ => ?_))
      | exact ih0 _ _ _ _
      | exact LeO.none _
      | refine LeO.ite ?_ ?_
      | refine LeO.bind ?_ (fun _ => ?_)
theorem thermographref04_Murmur.mono : ∀ a0 a1 k, LeO (thermographref04_Murmur.f k a0 a1) (thermographref04_Murmur.f (k + 1) a0 a1) := by
  intro a0 a1 k
  have ih0 := thermographref04_Murmur.mono_l k
  unfold thermographref04_Murmur.f
  repeat' first
      | (with_reducible exact ih0 _ _ _ _)
      | (with_reducible exact LeO.refl _)
      | (with_reducible exact LeO.none _)
      | (with_reducible refine LeO.ite ?_ ?_)
      | (with_reducible refine LeO.bind ?_ (fun _ => ?_))
      | exact ih0 _ _ _ _
      | exact LeO.none _
      | refine LeO.ite ?_ ?_
      | refine LeO.bind ?_ (fun _ => ?_)
set_option maxHeartbeats 8000000 in
set_option maxRecDepth 100000 in
theorem thermographref04_Murmur.calls (k : Nat) (A0 : Option Addr) (c0 : Nat) (l0 : List Int) (a1 : Int) (r : Int) (w : World) (hr0 : Kd.C (Kd.int .u8) w A0 l0.length l0) (hc0 : l0.length ≤ c0) (h : thermographref04_Murmur.f k l0 a1 = some r) :
    Calls Try.prog 21 #[.slice A0 l0.length c0, .int .u32 a1] w fun e w' => e = .returned (.int .u32 r) ∧ Drawn0 w w' := by
  have HR0 := Aside0.mk hr0
  have HC0 := Aside0.mk hc0
  clear hr0 hc0
  have H : (thermographref04_Murmur.l0 k l0 a1 0 0) = some r := h
  clear h
  have H' := Aside0.mk H
  clear H
  go_enter Try.func21, Try.ntmps21
  go_wp2
  go_loopg [5, 6, 7] k (fun kq v5 v6 v7 w' => ∃ (x5_1 : Int) (x6_1 : Int) (x7_1 : Int), v5 = .int .u32 x5_1 ∧ v6 = .int .u32 x6_1 ∧ v7 = .int .i64 x7_1 ∧ Aside0 (thermographref04_Murmur.l0 kq l0 x5_1 x6_1 x7_1 = some r) ∧ Aside0 (kq ≤ k) ∧ Drawn0 w w')
  case atStart => exact ⟨(a1), (0), (0), (by first | rfl | (simp; done) | (simp [*]; done)), (by first | rfl | (simp; done) | (simp [*]; done)), (by first | rfl | (simp; done) | (simp [*]; done)), H', ⟨Nat.le_refl _⟩, by repeat (first | exact Drawn0.refl _ | apply Drawn0.step)⟩
  case round =>
    clear H'
    try clear c2
    try clear p2
    obtain ⟨x5_1, x6_1, x7_1, rfl, rfl, rfl, HA, HK1, ⟨m1, rfl⟩⟩ := hrel
    cases gk with
    | zero => exact absurd HA.out (by simp [thermographref04_Murmur.l0])
    | succ k1 =>
      have H := HA.out
      clear HA
      simp only [thermographref04_Murmur.l0] at H
      by_cases c3 : x7_1 < (l0.length : Int)
      · rw [if_pos c3] at H
        have c3b0 : decide (x7_1 < (l0.length : Int)) = true := decide_eq_true c3
        clear c3
        by_cases c4 : 0 ≤ x7_1
        · rw [if_pos c4] at H
          have c4b0 : decide (0 ≤ x7_1) = true := decide_eq_true c4
          clear c4
          obtain ⟨ji5, hji5⟩ : ∃ j_ : Int, (wrap64 (8 * (Int.tmod x7_1 4))) = j_ := ⟨_, rfl⟩
          replace H : (if 0 ≤ (ji5) then (if (Int.tmod x7_1 4) = 3 then ((thermographref04_mixed.f (Go.bits .or .u32 x6_1 (shl .u32 ((rd l0 x7_1) % 4294967296) (ji5)))).bind fun t105 => ((thermographref04_left.f (Go.bits .xor .u32 x5_1 t105) 13).bind fun t106 => (thermographref04_Murmur.l0 k1 l0 ((((t106 * 5) % 4294967296) + 3864292196) % 4294967296) 0 (wrap64 (x7_1 + 1))))) else (thermographref04_Murmur.l0 k1 l0 x5_1 (Go.bits .or .u32 x6_1 (shl .u32 ((rd l0 x7_1) % 4294967296) (ji5))) (wrap64 (x7_1 + 1)))) else (none)) = some r := by first | (rw [hji5] at H; exact H) | (simp only [hji5] at H ⊢; exact H)
          have hji5w : (IntKind.i64.wrap (8 * (Int.tmod x7_1 4))) = ji5 := (i64_w _).trans hji5
          by_cases c6 : 0 ≤ (ji5)
          · rw [if_pos c6] at H
            have c6b0 := eq_true c6
            have c6b1 : decide (0 ≤ (ji5)) = true := decide_eq_true c6
            clear c6
            obtain ⟨ji7, hji7⟩ : ∃ j_ : Int, (shl .u32 ((rd l0 x7_1) % 4294967296) (ji5)) = j_ := ⟨_, rfl⟩
            replace H : (if (Int.tmod x7_1 4) = 3 then ((thermographref04_mixed.f (Go.bits .or .u32 x6_1 (ji7))).bind fun t105 => ((thermographref04_left.f (Go.bits .xor .u32 x5_1 t105) 13).bind fun t106 => (thermographref04_Murmur.l0 k1 l0 ((((t106 * 5) % 4294967296) + 3864292196) % 4294967296) 0 (wrap64 (x7_1 + 1))))) else (thermographref04_Murmur.l0 k1 l0 x5_1 (Go.bits .or .u32 x6_1 (ji7)) (wrap64 (x7_1 + 1)))) = some r := by first | (rw [hji7] at H; exact H) | (simp only [hji7] at H ⊢; exact H)
            have hji7_ : (IntKind.u32.wrap (((rd l0 x7_1) % 4294967296) * 2 ^ min (ji5).toNat 32)) = ji7 := hji7
            have hji7z : (ji5) ≤ 32 → (IntKind.u32.wrap (((rd l0 x7_1) % 4294967296) * 2 ^ (ji5).toNat)) = ji7 := shl_small hji7
            by_cases c8 : (Int.tmod x7_1 4) = 3
            · rw [if_pos c8] at H
              have c8b0 : ((Int.tmod x7_1 4) == 3) = true := beq_iff_eq.mpr c8
              have c8b1 : ((Int.tmod x7_1 4) != 3) = false := bne_eq_false_iff_eq.mpr c8
              clear c8
              replace H := Option.bind_eq_some_iff.mp H
              obtain ⟨t105, A90, H⟩ := H
              replace H : ((thermographref04_left.f (Go.bits .xor .u32 x5_1 t105) 13).bind fun t106 => (thermographref04_Murmur.l0 k1 l0 ((((t106 * 5) % 4294967296) + 3864292196) % 4294967296) 0 (wrap64 (x7_1 + 1)))) = some r := H
              have A9 := Aside0.mk A90
              clear A90
              replace H := Option.bind_eq_some_iff.mp H
              obtain ⟨t106, A100, H⟩ := H
              replace H : (thermographref04_Murmur.l0 k1 l0 ((((t106 * 5) % 4294967296) + 3864292196) % 4294967296) 0 (wrap64 (x7_1 + 1))) = some r := H
              have A10 := Aside0.mk A100
              clear A100
              have H' := Aside0.mk H
              clear H
              have p104 : 0 ≤ (x7_1 : Int) := of_decide_eq_true (by first | (with_reducible assumption) | assumption)
              have q104 : x7_1 < (l0.length : Int) := of_decide_eq_true (by first | (with_reducible assumption) | assumption)
              obtain ⟨ad104, e104, hx104_0⟩ := Kd.at_int HR0.out x7_1 p104 q104
              cases e104
              replace p104 := eq_true p104
              replace q104 := eq_true q104
              go_wp2_with (first | ((with_reducible refine gate_callee (f := 25) rfl ?_); refine goesL_ (some 31) rfl rfl Try.func25 (by kernel_rfl) rfl #[.int .u32 (Go.bits .or .u32 x6_1 (ji7))] rfl (by (try simp only [List.map_toArray, List.map_cons, List.map_nil]); first | done | (simp only [hji7]; rfl) | rfl | (simp only [List.length_drop, List.length_take]; rfl)) ?_; (with_reducible refine (thermographref04_mixed.calls (Go.bits .or .u32 x6_1 (ji7)) t105 _ A9.out).mono ?_); rintro e w' ⟨rfl, ⟨nd, rfl⟩⟩; refine ⟨_, rfl, ?_⟩) | ((with_reducible refine gate_callee (f := 24) rfl ?_); refine goesL_ (some 33) rfl rfl Try.func24 (by kernel_rfl) rfl #[.int .u32 (Go.bits .xor .u32 x5_1 t105), .int .i64 13] rfl (by (try simp only [List.map_toArray, List.map_cons, List.map_nil]); first | done | rfl | (simp only [List.length_drop, List.length_take]; rfl)) ?_; (with_reducible refine (thermographref04_left.calls (Go.bits .xor .u32 x5_1 t105) 13 t106 _ A10.out).mono ?_); rintro e w' ⟨rfl, ⟨nd, rfl⟩⟩; refine ⟨_, rfl, ?_⟩))
              go_roundg k1
              case measure => have := HK1.out; omega
              case rel => exact ⟨((((t106 * 5) % 4294967296) + 3864292196) % 4294967296), (0), (wrap64 (x7_1 + 1)), (by first | rfl | (simp; done) | (simp [*]; done)), (by first | rfl | (simp; done) | (simp [*]; done)), (by first | rfl | (simp; done) | (simp [*]; done)), H', ⟨by have := HK1.out; omega⟩, by repeat (first | exact Drawn0.refl _ | apply Drawn0.step)⟩
            · rw [if_neg c8] at H
              have c8b0 : ((Int.tmod x7_1 4) == 3) = false := beq_eq_false_iff_ne.mpr c8
              have c8b1 : ((Int.tmod x7_1 4) != 3) = true := bne_iff_ne.mpr c8
              have H' := Aside0.mk H
              clear H
              have p104 : 0 ≤ (x7_1 : Int) := of_decide_eq_true (by first | (with_reducible assumption) | assumption)
              have q104 : x7_1 < (l0.length : Int) := of_decide_eq_true (by first | (with_reducible assumption) | assumption)
              obtain ⟨ad104, e104, hx104_0⟩ := Kd.at_int HR0.out x7_1 p104 q104
              cases e104
              replace p104 := eq_true p104
              replace q104 := eq_true q104
              go_wp2
              go_roundg k1
              case measure => have := HK1.out; omega
              case rel => exact ⟨(x5_1), (Go.bits .or .u32 x6_1 (ji7)), (wrap64 (x7_1 + 1)), (by first | rfl | (simp; done) | (simp [*]; done)), (by first | rfl | (simp; done) | (simp only [← hji7] <;> (first | rfl | simp)) | (simp [*]; done)), (by first | rfl | (simp; done) | (simp [*]; done)), H', ⟨by have := HK1.out; omega⟩, by repeat (first | exact Drawn0.refl _ | apply Drawn0.step)⟩
          · rw [if_neg c6] at H
            exact absurd H (by simp)
        · rw [if_neg c4] at H
          exact absurd H (by simp)
      · rw [if_neg c3] at H
        have c3b0 : decide (x7_1 < (l0.length : Int)) = false := decide_eq_false c3
        clear c3
        by_cases c11 : ((l0.length : Int) % 4) = 0
        · rw [if_pos c11] at H
          have c11b0 : (((l0.length : Int) % 4) == 0) = true := beq_iff_eq.mpr c11
          have c11b1 : (((l0.length : Int) % 4) != 0) = false := bne_eq_false_iff_eq.mpr c11
          clear c11
          obtain rfl := Option.some.inj H
          go_wp2
          go_ret
          exact ⟨by first | rfl | (simp; done) | (simp [*]; done), by repeat (first | exact Drawn0.refl _ | apply Drawn0.step)⟩
        · rw [if_neg c11] at H
          have c11b0 : (((l0.length : Int) % 4) == 0) = false := beq_eq_false_iff_ne.mpr c11
          have c11b1 : (((l0.length : Int) % 4) != 0) = true := bne_iff_ne.mpr c11
          replace H := Option.bind_eq_some_iff.mp H
          obtain ⟨t103, A120, H⟩ := H
          replace H : (some (Go.bits .xor .u32 (((Go.bits .xor .u32 (((Go.bits .xor .u32 (Go.bits .xor .u32 (Go.bits .xor .u32 x5_1 t103) (((l0.length : Int)) % 4294967296)) ((Go.bits .xor .u32 (Go.bits .xor .u32 x5_1 t103) (((l0.length : Int)) % 4294967296)) / 65536)) * 2246822507) % 4294967296) ((((Go.bits .xor .u32 (Go.bits .xor .u32 (Go.bits .xor .u32 x5_1 t103) (((l0.length : Int)) % 4294967296)) ((Go.bits .xor .u32 (Go.bits .xor .u32 x5_1 t103) (((l0.length : Int)) % 4294967296)) / 65536)) * 2246822507) % 4294967296) / 8192)) * 3266489909) % 4294967296) ((((Go.bits .xor .u32 (((Go.bits .xor .u32 (Go.bits .xor .u32 (Go.bits .xor .u32 x5_1 t103) (((l0.length : Int)) % 4294967296)) ((Go.bits .xor .u32 (Go.bits .xor .u32 x5_1 t103) (((l0.length : Int)) % 4294967296)) / 65536)) * 2246822507) % 4294967296) ((((Go.bits .xor .u32 (Go.bits .xor .u32 (Go.bits .xor .u32 x5_1 t103) (((l0.length : Int)) % 4294967296)) ((Go.bits .xor .u32 (Go.bits .xor .u32 x5_1 t103) (((l0.length : Int)) % 4294967296)) / 65536)) * 2246822507) % 4294967296) / 8192)) * 3266489909) % 4294967296) / 65536))) = some r := H
          have A12 := Aside0.mk A120
          clear A120
          obtain rfl := Option.some.inj H
          go_wp2_with (first | ((with_reducible refine gate_callee (f := 25) rfl ?_); refine goesL_ (some 42) rfl rfl Try.func25 (by kernel_rfl) rfl #[.int .u32 x6_1] rfl (by (try simp only [List.map_toArray, List.map_cons, List.map_nil]); first | done | rfl | (simp only [List.length_drop, List.length_take]; rfl)) ?_; (with_reducible refine (thermographref04_mixed.calls x6_1 t103 _ A12.out).mono ?_); rintro e w' ⟨rfl, ⟨nd, rfl⟩⟩; refine ⟨_, rfl, ?_⟩))
          go_ret
          exact ⟨by first | rfl | (simp; done) | (simp [*]; done), by repeat (first | exact Drawn0.refl _ | apply Drawn0.step)⟩

-- NOT PRINTED: function 18 (thermographref07_place)

-- NOT PRINTED: function 14 (thermographref07_Filter_Has)

-- NOT PRINTED: function 15 (thermographref07_Build)

-- NOT PRINTED: function 6 (thermographlaw07_BloomBits)

-- NOT PRINTED: function 3 (thermographlaw07_BloomMore)

-- NOT PRINTED: function 11 (bloom_Parse)

-- NOT PRINTED: function 12 (thermographref07_Parse)

-- NOT PRINTED: function 4 (thermographlaw07_BloomParses)

-- NOT PRINTED: function 5 (thermographlaw07_BloomOrder)

-- NOT PRINTED: function 7 (thermographlaw07_BloomHas)

end Go.Proofs.Yteeimkafcadinaa.B
