/- The plain Lean functions of the seat's Go functions and, for each, that the Go call does what it does; written by a program of this session after the kit's print. -/
import Derived.Test.YtcppajpkllfpmaaBx0
namespace Go.Proofs.Ytcppajpkllfpmaa.B
open Go.RowKit Go.Proofs.YtcppajpkllfpmaaW.PrintWords Go.Proofs.YtcppajpkllfpmaaW.PrintLast Go.Proofs.YtcppajpkllfpmaaW.PrintMore
attribute [local go_sem] max2_int min2_int max_two min_two max_three min_three max_four min_four   -- for this text's walks alone
set_option linter.unusedVariables false
set_option linter.unusedSimpArgs false

/-! ### bits_RotateLeft32: function 13 -/
def bits_RotateLeft32.f (a0 : Int) (a1 : Int) : Option (Int) := if 0 ≤ (Go.bits .and .u64 (IntKind.u64.wrap (a1)) 31) then (if 0 ≤ (IntKind.u64.wrap (32 - (Go.bits .and .u64 (IntKind.u64.wrap (a1)) 31))) then (some (Go.bits .or .u32 (shl .u32 a0 (Go.bits .and .u64 (IntKind.u64.wrap (a1)) 31)) (shr .u32 a0 (IntKind.u64.wrap (32 - (Go.bits .and .u64 (IntKind.u64.wrap (a1)) 31)))))) else (none)) else (none)
set_option maxHeartbeats 8000000 in
set_option maxRecDepth 100000 in
theorem bits_RotateLeft32.calls (a0 : Int) (a1 : Int) (r : Int) (w : World) (h : bits_RotateLeft32.f a0 a1 = some r) :
    Calls Try.prog 13 #[.int .u32 a0, .int .i64 a1] w fun e w' => e = .returned (.int .u32 r) ∧ Drawn0 w w' := by
  have H : (if 0 ≤ (Go.bits .and .u64 (IntKind.u64.wrap (a1)) 31) then (if 0 ≤ (IntKind.u64.wrap (32 - (Go.bits .and .u64 (IntKind.u64.wrap (a1)) 31))) then (some (Go.bits .or .u32 (shl .u32 a0 (Go.bits .and .u64 (IntKind.u64.wrap (a1)) 31)) (shr .u32 a0 (IntKind.u64.wrap (32 - (Go.bits .and .u64 (IntKind.u64.wrap (a1)) 31)))))) else (none)) else (none)) = some r := h
  clear h
  obtain ⟨ji3, hji3⟩ : ∃ j_ : Int, (Go.bits .and .u64 (IntKind.u64.wrap (a1)) 31) = j_ := ⟨_, rfl⟩
  replace H : (if 0 ≤ (ji3) then (if 0 ≤ (IntKind.u64.wrap (32 - (ji3))) then (some (Go.bits .or .u32 (shl .u32 a0 (ji3)) (shr .u32 a0 (IntKind.u64.wrap (32 - (ji3)))))) else (none)) else (none)) = some r := by first | (rw [hji3] at H; exact H) | (simp only [hji3] at H ⊢; exact H)
  by_cases c4 : 0 ≤ (ji3)
  · rw [if_pos c4] at H
    have c4b0 := eq_true c4
    have c4b1 : decide (0 ≤ (ji3)) = true := decide_eq_true c4
    clear c4
    obtain ⟨ji5, hji5⟩ : ∃ j_ : Int, (shl .u32 a0 (ji3)) = j_ := ⟨_, rfl⟩
    replace H : (if 0 ≤ (IntKind.u64.wrap (32 - (ji3))) then (some (Go.bits .or .u32 (ji5) (shr .u32 a0 (IntKind.u64.wrap (32 - (ji3)))))) else (none)) = some r := by first | (rw [hji5] at H; exact H) | (simp only [hji5] at H ⊢; exact H)
    have hji5_ : (IntKind.u32.wrap (a0 * 2 ^ min (ji3).toNat 32)) = ji5 := hji5
    have hji5z : (ji3) ≤ 32 → (IntKind.u32.wrap (a0 * 2 ^ (ji3).toNat)) = ji5 := shl_small hji5
    obtain ⟨ji6, hji6⟩ : ∃ j_ : Int, (IntKind.u64.wrap (32 - (ji3))) = j_ := ⟨_, rfl⟩
    replace H : (if 0 ≤ (ji6) then (some (Go.bits .or .u32 (ji5) (shr .u32 a0 (ji6)))) else (none)) = some r := by first | (rw [hji6] at H; exact H) | (simp only [hji6] at H ⊢; exact H)
    by_cases c7 : 0 ≤ (ji6)
    · rw [if_pos c7] at H
      have c7b0 := eq_true c7
      have c7b1 : decide (0 ≤ (ji6)) = true := decide_eq_true c7
      clear c7
      obtain ⟨ji8, hji8⟩ : ∃ j_ : Int, (shr .u32 a0 (ji6)) = j_ := ⟨_, rfl⟩
      replace H : (some (Go.bits .or .u32 (ji5) (ji8))) = some r := by first | (rw [hji8] at H; exact H) | (simp only [hji8] at H ⊢; exact H)
      have hji8_ : (a0 / 2 ^ min (ji6).toNat 32) = ji8 := hji8
      have hji8z : (ji6) ≤ 32 → (a0 / 2 ^ (ji6).toNat) = ji8 := shr_small hji8
      obtain rfl := Option.some.inj H
      go_enter Try.func13, Try.ntmps13
      go_wp2
      go_ret
      exact ⟨by first | rfl | (simp; done) | (simp only [← hji3, ← hji5, ← hji6, ← hji8] <;> (first | rfl | simp)) | (simp [*]; done), by repeat (first | exact Drawn0.refl _ | apply Drawn0.step)⟩
    · rw [if_neg c7] at H
      exact absurd H (by simp)
  · rw [if_neg c4] at H
    exact absurd H (by simp)

-- NOT PRINTED: function 14 (digest_scrambled)

-- NOT PRINTED: function 11 (digest_Murmur)

-- NOT PRINTED: function 9 (digest_Shard)

/-! ### thermographref04_left: function 15 -/
def thermographref04_left.f (a0 : Int) (a1 : Int) : Option (Int) := if 0 ≤ a1 then (if 0 ≤ (wrap64 (32 - a1)) then (some (Go.bits .or .u32 (shl .u32 a0 a1) (shr .u32 a0 (wrap64 (32 - a1))))) else (none)) else (none)
set_option maxHeartbeats 8000000 in
set_option maxRecDepth 100000 in
theorem thermographref04_left.calls (a0 : Int) (a1 : Int) (r : Int) (w : World) (h : thermographref04_left.f a0 a1 = some r) :
    Calls Try.prog 15 #[.int .u32 a0, .int .i64 a1] w fun e w' => e = .returned (.int .u32 r) ∧ Drawn0 w w' := by
  have H : (if 0 ≤ a1 then (if 0 ≤ (wrap64 (32 - a1)) then (some (Go.bits .or .u32 (shl .u32 a0 a1) (shr .u32 a0 (wrap64 (32 - a1))))) else (none)) else (none)) = some r := h
  clear h
  by_cases c3 : 0 ≤ a1
  · rw [if_pos c3] at H
    have c3b0 := eq_true c3
    have c3b1 : decide (0 ≤ a1) = true := decide_eq_true c3
    clear c3
    obtain ⟨ji4, hji4⟩ : ∃ j_ : Int, (shl .u32 a0 a1) = j_ := ⟨_, rfl⟩
    replace H : (if 0 ≤ (wrap64 (32 - a1)) then (some (Go.bits .or .u32 (ji4) (shr .u32 a0 (wrap64 (32 - a1))))) else (none)) = some r := by first | (rw [hji4] at H; exact H) | (simp only [hji4] at H ⊢; exact H)
    have hji4_ : (IntKind.u32.wrap (a0 * 2 ^ min a1.toNat 32)) = ji4 := hji4
    have hji4z : a1 ≤ 32 → (IntKind.u32.wrap (a0 * 2 ^ a1.toNat)) = ji4 := shl_small hji4
    obtain ⟨ji5, hji5⟩ : ∃ j_ : Int, (wrap64 (32 - a1)) = j_ := ⟨_, rfl⟩
    replace H : (if 0 ≤ (ji5) then (some (Go.bits .or .u32 (ji4) (shr .u32 a0 (ji5)))) else (none)) = some r := by first | (rw [hji5] at H; exact H) | (simp only [hji5] at H ⊢; exact H)
    have hji5w : (IntKind.i64.wrap (32 - a1)) = ji5 := (i64_w _).trans hji5
    by_cases c6 : 0 ≤ (ji5)
    · rw [if_pos c6] at H
      have c6b0 := eq_true c6
      have c6b1 : decide (0 ≤ (ji5)) = true := decide_eq_true c6
      clear c6
      obtain ⟨ji7, hji7⟩ : ∃ j_ : Int, (shr .u32 a0 (ji5)) = j_ := ⟨_, rfl⟩
      replace H : (some (Go.bits .or .u32 (ji4) (ji7))) = some r := by first | (rw [hji7] at H; exact H) | (simp only [hji7] at H ⊢; exact H)
      have hji7_ : (a0 / 2 ^ min (ji5).toNat 32) = ji7 := hji7
      have hji7z : (ji5) ≤ 32 → (a0 / 2 ^ (ji5).toNat) = ji7 := shr_small hji7
      obtain rfl := Option.some.inj H
      go_enter Try.func15, Try.ntmps15
      go_wp2
      repeat (go_quiet (fail); try go_wp2)
      go_ret
      exact ⟨by first | rfl | (simp; done) | (simp only [← hji4, ← hji5, ← hji7] <;> (first | rfl | simp)) | (simp [*]; done), by repeat (first | exact Drawn0.refl _ | apply Drawn0.step)⟩
    · rw [if_neg c6] at H
      exact absurd H (by simp)
  · rw [if_neg c3] at H
    exact absurd H (by simp)

/-! ### thermographref04_mixed: function 16 -/
def thermographref04_mixed.f (a0 : Int) : Option (Int) := (thermographref04_left.f ((a0 * 3432918353) % 4294967296) 15).bind fun t106 => (some ((t106 * 461845907) % 4294967296))
set_option maxHeartbeats 8000000 in
set_option maxRecDepth 100000 in
theorem thermographref04_mixed.calls (a0 : Int) (r : Int) (w : World) (h : thermographref04_mixed.f a0 = some r) :
    Calls Try.prog 16 #[.int .u32 a0] w fun e w' => e = .returned (.int .u32 r) ∧ Drawn0 w w' := by
  have H : ((thermographref04_left.f ((a0 * 3432918353) % 4294967296) 15).bind fun t106 => (some ((t106 * 461845907) % 4294967296))) = some r := h
  clear h
  replace H := Option.bind_eq_some_iff.mp H
  obtain ⟨t106, A20, H⟩ := H
  replace H : (some ((t106 * 461845907) % 4294967296)) = some r := H
  have A2 := Aside0.mk A20
  clear A20
  obtain rfl := Option.some.inj H
  go_enter Try.func16, Try.ntmps16
  go_wp2_with (first | ((with_reducible refine gate_callee (f := 15) rfl ?_); refine goesL_ (some 5) rfl rfl Try.func15 (by kernel_rfl) rfl #[.int .u32 ((a0 * 3432918353) % 4294967296), .int .i64 15] rfl (by (try simp only [List.map_toArray, List.map_cons, List.map_nil]); first | done | rfl | (simp only [List.length_drop, List.length_take]; rfl)) ?_; (with_reducible refine (thermographref04_left.calls ((a0 * 3432918353) % 4294967296) 15 t106 _ A2.out).mono ?_); rintro e w' ⟨rfl, ⟨nd, rfl⟩⟩; refine ⟨_, rfl, ?_⟩))
  go_ret
  exact ⟨by first | rfl | (simp; done) | (simp [*]; done), by repeat (first | exact Drawn0.refl _ | apply Drawn0.step)⟩

/-! ### thermographref04_Murmur: function 12 -/
def thermographref04_Murmur.l0 : Nat → List Int → Int → Int → Int → Option (Int)
  | 0, _, _, _, _ => none
  | k + 1, x0, x5, x6, x7 => if x7 < (x0.length : Int) then (if 0 ≤ x7 then (if 0 ≤ (wrap64 (8 * (Int.tmod x7 4))) then (if (Int.tmod x7 4) = 3 then ((thermographref04_mixed.f (Go.bits .or .u32 x6 (shl .u32 ((rd x0 x7) % 4294967296) (wrap64 (8 * (Int.tmod x7 4)))))).bind fun t109 => ((thermographref04_left.f (Go.bits .xor .u32 x5 t109) 13).bind fun t110 => (thermographref04_Murmur.l0 k x0 ((((t110 * 5) % 4294967296) + 3864292196) % 4294967296) 0 (wrap64 (x7 + 1))))) else (thermographref04_Murmur.l0 k x0 x5 (Go.bits .or .u32 x6 (shl .u32 ((rd x0 x7) % 4294967296) (wrap64 (8 * (Int.tmod x7 4))))) (wrap64 (x7 + 1)))) else (none)) else (none)) else (if ((x0.length : Int) % 4) = 0 then (some (Go.bits .xor .u32 (((Go.bits .xor .u32 (((Go.bits .xor .u32 (Go.bits .xor .u32 x5 (((x0.length : Int)) % 4294967296)) ((Go.bits .xor .u32 x5 (((x0.length : Int)) % 4294967296)) / 65536)) * 2246822507) % 4294967296) ((((Go.bits .xor .u32 (Go.bits .xor .u32 x5 (((x0.length : Int)) % 4294967296)) ((Go.bits .xor .u32 x5 (((x0.length : Int)) % 4294967296)) / 65536)) * 2246822507) % 4294967296) / 8192)) * 3266489909) % 4294967296) ((((Go.bits .xor .u32 (((Go.bits .xor .u32 (Go.bits .xor .u32 x5 (((x0.length : Int)) % 4294967296)) ((Go.bits .xor .u32 x5 (((x0.length : Int)) % 4294967296)) / 65536)) * 2246822507) % 4294967296) ((((Go.bits .xor .u32 (Go.bits .xor .u32 x5 (((x0.length : Int)) % 4294967296)) ((Go.bits .xor .u32 x5 (((x0.length : Int)) % 4294967296)) / 65536)) * 2246822507) % 4294967296) / 8192)) * 3266489909) % 4294967296) / 65536))) else ((thermographref04_mixed.f x6).bind fun t107 => (some (Go.bits .xor .u32 (((Go.bits .xor .u32 (((Go.bits .xor .u32 (Go.bits .xor .u32 (Go.bits .xor .u32 x5 t107) (((x0.length : Int)) % 4294967296)) ((Go.bits .xor .u32 (Go.bits .xor .u32 x5 t107) (((x0.length : Int)) % 4294967296)) / 65536)) * 2246822507) % 4294967296) ((((Go.bits .xor .u32 (Go.bits .xor .u32 (Go.bits .xor .u32 x5 t107) (((x0.length : Int)) % 4294967296)) ((Go.bits .xor .u32 (Go.bits .xor .u32 x5 t107) (((x0.length : Int)) % 4294967296)) / 65536)) * 2246822507) % 4294967296) / 8192)) * 3266489909) % 4294967296) ((((Go.bits .xor .u32 (((Go.bits .xor .u32 (Go.bits .xor .u32 (Go.bits .xor .u32 x5 t107) (((x0.length : Int)) % 4294967296)) ((Go.bits .xor .u32 (Go.bits .xor .u32 x5 t107) (((x0.length : Int)) % 4294967296)) / 65536)) * 2246822507) % 4294967296) ((((Go.bits .xor .u32 (Go.bits .xor .u32 (Go.bits .xor .u32 x5 t107) (((x0.length : Int)) % 4294967296)) ((Go.bits .xor .u32 (Go.bits .xor .u32 x5 t107) (((x0.length : Int)) % 4294967296)) / 65536)) * 2246822507) % 4294967296) / 8192)) * 3266489909) % 4294967296) / 65536)))))
def thermographref04_Murmur.f (k : Nat) (l0 : List Int) (a1 : Int) : Option (Int) := thermographref04_Murmur.l0 k l0 a1 0 0
theorem thermographref04_Murmur.mono_l : ∀ k, (∀ y0 y1 y2 y3, LeO (thermographref04_Murmur.l0 k y0 y1 y2 y3) (thermographref04_Murmur.l0 (k + 1) y0 y1 y2 y3))
  | 0 => fun _ _ _ _ r h => by simp [thermographref04_Murmur.l0] at h
  | k + 1 => by
    have ih0 := thermographref04_Murmur.mono_l k
    · intro y0 y1 y2 y3
      unfold thermographref04_Murmur.l0
      repeat' first
      | (with_reducible exact ih0 _ _ _ _)
      | (with_reducible exact LeO.refl _)
      | (with_reducible exact LeO.none _)
      | (with_reducible refine LeO.ite ?_ ?_)
      | (with_reducible refine LeO.bind ?_ (fun _ => ?_))
      | exact ih0 _ _ _ _
      | exact LeO.none _
      | refine LeO.ite ?_ ?_
      | refine LeO.bind ?_ (fun _ => ?_)
theorem thermographref04_Murmur.mono : ∀ a0 a1 k, LeO (thermographref04_Murmur.f k a0 a1) (thermographref04_Murmur.f (k + 1) a0 a1) := by
  intro a0 a1 k
  have ih0 := thermographref04_Murmur.mono_l k
  unfold thermographref04_Murmur.f
  repeat' first
      | (with_reducible exact ih0 _ _ _ _)
      | (with_reducible exact LeO.refl _)
      | (with_reducible exact LeO.none _)
      | (with_reducible refine LeO.ite ?_ ?_)
      | (with_reducible refine LeO.bind ?_ (fun _ => ?_))
      | exact ih0 _ _ _ _
      | exact LeO.none _
      | refine LeO.ite ?_ ?_
      | refine LeO.bind ?_ (fun _ => ?_)
set_option maxHeartbeats 8000000 in
set_option maxRecDepth 100000 in
theorem thermographref04_Murmur.calls (k : Nat) (A0 : Option Addr) (c0 : Nat) (l0 : List Int) (a1 : Int) (r : Int) (w : World) (hr0 : Kd.C (Kd.int .u8) w A0 l0.length l0) (hc0 : l0.length ≤ c0) (h : thermographref04_Murmur.f k l0 a1 = some r) :
    Calls Try.prog 12 #[.slice A0 l0.length c0, .int .u32 a1] w fun e w' => e = .returned (.int .u32 r) ∧ Drawn0 w w' := by
  have HR0 := Aside0.mk hr0
  have HC0 := Aside0.mk hc0
  clear hr0 hc0
  have H : (thermographref04_Murmur.l0 k l0 a1 0 0) = some r := h
  clear h
  have H' := Aside0.mk H
  clear H
  go_enter Try.func12, Try.ntmps12
  go_wp2
  go_loopg [5, 6, 7] k (fun kq v5 v6 v7 w' => ∃ (x5_1 : Int) (x6_1 : Int) (x7_1 : Int), v5 = .int .u32 x5_1 ∧ v6 = .int .u32 x6_1 ∧ v7 = .int .i64 x7_1 ∧ Aside0 (thermographref04_Murmur.l0 kq l0 x5_1 x6_1 x7_1 = some r) ∧ Aside0 (kq ≤ k) ∧ Drawn0 w w')
  case atStart => exact ⟨(a1), (0), (0), (by first | rfl | (simp; done) | (simp [*]; done)), (by first | rfl | (simp; done) | (simp [*]; done)), (by first | rfl | (simp; done) | (simp [*]; done)), H', ⟨Nat.le_refl _⟩, by repeat (first | exact Drawn0.refl _ | apply Drawn0.step)⟩
  case round =>
    clear H'
    try clear c1
    try clear p2
    obtain ⟨x5_1, x6_1, x7_1, rfl, rfl, rfl, HA, HK1, ⟨m1, rfl⟩⟩ := hrel
    cases gk with
    | zero => exact absurd HA.out (by simp [thermographref04_Murmur.l0])
    | succ k1 =>
      have H := HA.out
      clear HA
      simp only [thermographref04_Murmur.l0] at H
      by_cases c3 : x7_1 < (l0.length : Int)
      · rw [if_pos c3] at H
        have c3b0 : decide (x7_1 < (l0.length : Int)) = true := decide_eq_true c3
        clear c3
        by_cases c4 : 0 ≤ x7_1
        · rw [if_pos c4] at H
          have c4b0 : decide (0 ≤ x7_1) = true := decide_eq_true c4
          clear c4
          obtain ⟨ji5, hji5⟩ : ∃ j_ : Int, (wrap64 (8 * (Int.tmod x7_1 4))) = j_ := ⟨_, rfl⟩
          replace H : (if 0 ≤ (ji5) then (if (Int.tmod x7_1 4) = 3 then ((thermographref04_mixed.f (Go.bits .or .u32 x6_1 (shl .u32 ((rd l0 x7_1) % 4294967296) (ji5)))).bind fun t109 => ((thermographref04_left.f (Go.bits .xor .u32 x5_1 t109) 13).bind fun t110 => (thermographref04_Murmur.l0 k1 l0 ((((t110 * 5) % 4294967296) + 3864292196) % 4294967296) 0 (wrap64 (x7_1 + 1))))) else (thermographref04_Murmur.l0 k1 l0 x5_1 (Go.bits .or .u32 x6_1 (shl .u32 ((rd l0 x7_1) % 4294967296) (ji5))) (wrap64 (x7_1 + 1)))) else (none)) = some r := by first | (rw [hji5] at H; exact H) | (simp only [hji5] at H ⊢; exact H)
          have hji5w : (IntKind.i64.wrap (8 * (Int.tmod x7_1 4))) = ji5 := (i64_w _).trans hji5
          by_cases c6 : 0 ≤ (ji5)
          · rw [if_pos c6] at H
            have c6b0 := eq_true c6
            have c6b1 : decide (0 ≤ (ji5)) = true := decide_eq_true c6
            clear c6
            obtain ⟨ji7, hji7⟩ : ∃ j_ : Int, (shl .u32 ((rd l0 x7_1) % 4294967296) (ji5)) = j_ := ⟨_, rfl⟩
            replace H : (if (Int.tmod x7_1 4) = 3 then ((thermographref04_mixed.f (Go.bits .or .u32 x6_1 (ji7))).bind fun t109 => ((thermographref04_left.f (Go.bits .xor .u32 x5_1 t109) 13).bind fun t110 => (thermographref04_Murmur.l0 k1 l0 ((((t110 * 5) % 4294967296) + 3864292196) % 4294967296) 0 (wrap64 (x7_1 + 1))))) else (thermographref04_Murmur.l0 k1 l0 x5_1 (Go.bits .or .u32 x6_1 (ji7)) (wrap64 (x7_1 + 1)))) = some r := by first | (rw [hji7] at H; exact H) | (simp only [hji7] at H ⊢; exact H)
            have hji7_ : (IntKind.u32.wrap (((rd l0 x7_1) % 4294967296) * 2 ^ min (ji5).toNat 32)) = ji7 := hji7
            have hji7z : (ji5) ≤ 32 → (IntKind.u32.wrap (((rd l0 x7_1) % 4294967296) * 2 ^ (ji5).toNat)) = ji7 := shl_small hji7
            by_cases c8 : (Int.tmod x7_1 4) = 3
            · rw [if_pos c8] at H
              have c8b0 : ((Int.tmod x7_1 4) == 3) = true := beq_iff_eq.mpr c8
              have c8b1 : ((Int.tmod x7_1 4) != 3) = false := bne_eq_false_iff_eq.mpr c8
              clear c8
              replace H := Option.bind_eq_some_iff.mp H
              obtain ⟨t109, A90, H⟩ := H
              replace H : ((thermographref04_left.f (Go.bits .xor .u32 x5_1 t109) 13).bind fun t110 => (thermographref04_Murmur.l0 k1 l0 ((((t110 * 5) % 4294967296) + 3864292196) % 4294967296) 0 (wrap64 (x7_1 + 1)))) = some r := H
              have A9 := Aside0.mk A90
              clear A90
              replace H := Option.bind_eq_some_iff.mp H
              obtain ⟨t110, A100, H⟩ := H
              replace H : (thermographref04_Murmur.l0 k1 l0 ((((t110 * 5) % 4294967296) + 3864292196) % 4294967296) 0 (wrap64 (x7_1 + 1))) = some r := H
              have A10 := Aside0.mk A100
              clear A100
              have H' := Aside0.mk H
              clear H
              have p108 : 0 ≤ (x7_1 : Int) := of_decide_eq_true (by first | (with_reducible assumption) | assumption)
              have q108 : x7_1 < (l0.length : Int) := of_decide_eq_true (by first | (with_reducible assumption) | assumption)
              obtain ⟨ad108, e108, hx108_0⟩ := Kd.at_int HR0.out x7_1 p108 q108
              cases e108
              replace p108 := eq_true p108
              replace q108 := eq_true q108
              go_wp2_with (first | ((with_reducible refine gate_callee (f := 16) rfl ?_); refine goesL_ (some 31) rfl rfl Try.func16 (by kernel_rfl) rfl #[.int .u32 (Go.bits .or .u32 x6_1 (ji7))] rfl (by (try simp only [List.map_toArray, List.map_cons, List.map_nil]); first | done | (simp only [hji7]; rfl) | rfl | (simp only [List.length_drop, List.length_take]; rfl)) ?_; (with_reducible refine (thermographref04_mixed.calls (Go.bits .or .u32 x6_1 (ji7)) t109 _ A9.out).mono ?_); rintro e w' ⟨rfl, ⟨nd, rfl⟩⟩; refine ⟨_, rfl, ?_⟩) | ((with_reducible refine gate_callee (f := 15) rfl ?_); refine goesL_ (some 33) rfl rfl Try.func15 (by kernel_rfl) rfl #[.int .u32 (Go.bits .xor .u32 x5_1 t109), .int .i64 13] rfl (by (try simp only [List.map_toArray, List.map_cons, List.map_nil]); first | done | rfl | (simp only [List.length_drop, List.length_take]; rfl)) ?_; (with_reducible refine (thermographref04_left.calls (Go.bits .xor .u32 x5_1 t109) 13 t110 _ A10.out).mono ?_); rintro e w' ⟨rfl, ⟨nd, rfl⟩⟩; refine ⟨_, rfl, ?_⟩))
              go_roundg k1
              case measure => have := HK1.out; omega
              case rel => exact ⟨((((t110 * 5) % 4294967296) + 3864292196) % 4294967296), (0), (wrap64 (x7_1 + 1)), (by first | rfl | (simp; done) | (simp [*]; done)), (by first | rfl | (simp; done) | (simp [*]; done)), (by first | rfl | (simp; done) | (simp [*]; done)), H', ⟨by have := HK1.out; omega⟩, by repeat (first | exact Drawn0.refl _ | apply Drawn0.step)⟩
            · rw [if_neg c8] at H
              have c8b0 : ((Int.tmod x7_1 4) == 3) = false := beq_eq_false_iff_ne.mpr c8
              have c8b1 : ((Int.tmod x7_1 4) != 3) = true := bne_iff_ne.mpr c8
              have H' := Aside0.mk H
              clear H
              have p108 : 0 ≤ (x7_1 : Int) := of_decide_eq_true (by first | (with_reducible assumption) | assumption)
              have q108 : x7_1 < (l0.length : Int) := of_decide_eq_true (by first | (with_reducible assumption) | assumption)
              obtain ⟨ad108, e108, hx108_0⟩ := Kd.at_int HR0.out x7_1 p108 q108
              cases e108
              replace p108 := eq_true p108
              replace q108 := eq_true q108
              go_wp2
              go_roundg k1
              case measure => have := HK1.out; omega
              case rel => exact ⟨(x5_1), (Go.bits .or .u32 x6_1 (ji7)), (wrap64 (x7_1 + 1)), (by first | rfl | (simp; done) | (simp [*]; done)), (by first | rfl | (simp; done) | (simp only [← hji7] <;> (first | rfl | simp)) | (simp [*]; done)), (by first | rfl | (simp; done) | (simp [*]; done)), H', ⟨by have := HK1.out; omega⟩, by repeat (first | exact Drawn0.refl _ | apply Drawn0.step)⟩
          · rw [if_neg c6] at H
            exact absurd H (by simp)
        · rw [if_neg c4] at H
          exact absurd H (by simp)
      · rw [if_neg c3] at H
        have c3b0 : decide (x7_1 < (l0.length : Int)) = false := decide_eq_false c3
        clear c3
        by_cases c11 : ((l0.length : Int) % 4) = 0
        · rw [if_pos c11] at H
          have c11b0 : (((l0.length : Int) % 4) == 0) = true := beq_iff_eq.mpr c11
          have c11b1 : (((l0.length : Int) % 4) != 0) = false := bne_eq_false_iff_eq.mpr c11
          clear c11
          obtain rfl := Option.some.inj H
          go_wp2
          go_ret
          exact ⟨by first | rfl | (simp; done) | (simp [*]; done), by repeat (first | exact Drawn0.refl _ | apply Drawn0.step)⟩
        · rw [if_neg c11] at H
          have c11b0 : (((l0.length : Int) % 4) == 0) = false := beq_eq_false_iff_ne.mpr c11
          have c11b1 : (((l0.length : Int) % 4) != 0) = true := bne_iff_ne.mpr c11
          replace H := Option.bind_eq_some_iff.mp H
          obtain ⟨t107, A120, H⟩ := H
          replace H : (some (Go.bits .xor .u32 (((Go.bits .xor .u32 (((Go.bits .xor .u32 (Go.bits .xor .u32 (Go.bits .xor .u32 x5_1 t107) (((l0.length : Int)) % 4294967296)) ((Go.bits .xor .u32 (Go.bits .xor .u32 x5_1 t107) (((l0.length : Int)) % 4294967296)) / 65536)) * 2246822507) % 4294967296) ((((Go.bits .xor .u32 (Go.bits .xor .u32 (Go.bits .xor .u32 x5_1 t107) (((l0.length : Int)) % 4294967296)) ((Go.bits .xor .u32 (Go.bits .xor .u32 x5_1 t107) (((l0.length : Int)) % 4294967296)) / 65536)) * 2246822507) % 4294967296) / 8192)) * 3266489909) % 4294967296) ((((Go.bits .xor .u32 (((Go.bits .xor .u32 (Go.bits .xor .u32 (Go.bits .xor .u32 x5_1 t107) (((l0.length : Int)) % 4294967296)) ((Go.bits .xor .u32 (Go.bits .xor .u32 x5_1 t107) (((l0.length : Int)) % 4294967296)) / 65536)) * 2246822507) % 4294967296) ((((Go.bits .xor .u32 (Go.bits .xor .u32 (Go.bits .xor .u32 x5_1 t107) (((l0.length : Int)) % 4294967296)) ((Go.bits .xor .u32 (Go.bits .xor .u32 x5_1 t107) (((l0.length : Int)) % 4294967296)) / 65536)) * 2246822507) % 4294967296) / 8192)) * 3266489909) % 4294967296) / 65536))) = some r := H
          have A12 := Aside0.mk A120
          clear A120
          obtain rfl := Option.some.inj H
          go_wp2_with (first | ((with_reducible refine gate_callee (f := 16) rfl ?_); refine goesL_ (some 42) rfl rfl Try.func16 (by kernel_rfl) rfl #[.int .u32 x6_1] rfl (by (try simp only [List.map_toArray, List.map_cons, List.map_nil]); first | done | rfl | (simp only [List.length_drop, List.length_take]; rfl)) ?_; (with_reducible refine (thermographref04_mixed.calls x6_1 t107 _ A12.out).mono ?_); rintro e w' ⟨rfl, ⟨nd, rfl⟩⟩; refine ⟨_, rfl, ?_⟩))
          go_ret
          exact ⟨by first | rfl | (simp; done) | (simp [*]; done), by repeat (first | exact Drawn0.refl _ | apply Drawn0.step)⟩

-- NOT PRINTED: function 10 (thermographref04_Shard)

-- NOT PRINTED: function 4 (thermographlaw04_DigestShards)

/-! ### digest_Adler: function 7 -/
mutual
def digest_Adler.l0 : Nat → List Int → Int → Int → Option (Int)
  | 0, _, _, _ => none
  | k + 1, x0, x3, x4 => if (x0.length : Int) > 0 then (if 0 ≤ (mn (x0.length : Int) 3000) then (if (mn (x0.length : Int) 3000) ≤ (x0.length : Int) then ((some (x0.take ((mn (x0.length : Int) 3000) : Int).toNat : List Int)).bind fun y111 => (digest_Adler.l1 k x0 x3 x4 y111 y111 (y111.length : Int) 0)) else (none)) else (none)) else (some (Go.bits .or .u32 ((((x4) % 4294967296) * 65536) % 4294967296) ((x3) % 4294967296)))
def digest_Adler.l1 : Nat → List Int → Int → Int → List Int → List Int → Int → Int → Option (Int)
  | 0, _, _, _, _, _, _, _ => none
  | k + 1, x0, x3, x4, x5, x16, x17, x18 => if x18 < x17 then (if 0 ≤ x18 then (if x18 < (x16.length : Int) then (digest_Adler.l1 k x0 (wrap64 (x3 + (wrap64 (rd x16 x18)))) (wrap64 (x4 + (wrap64 (x3 + (wrap64 (rd x16 x18)))))) x5 x16 x17 (wrap64 (x18 + 1))) else (none)) else (none)) else (if 0 ≤ (x5.length : Int) then (if (x5.length : Int) ≤ (x0.length : Int) then (digest_Adler.l0 k (x0.drop ((x5.length : Int) : Int).toNat) (Int.tmod x3 65521) (Int.tmod x4 65521)) else (none)) else (none))
end
def digest_Adler.f (k : Nat) (l0 : List Int) : Option (Int) := digest_Adler.l0 k l0 1 0
theorem digest_Adler.mono_l : ∀ k, (∀ y0 y1 y2, LeO (digest_Adler.l0 k y0 y1 y2) (digest_Adler.l0 (k + 1) y0 y1 y2)) ∧ (∀ y0 y1 y2 y3 y4 y5 y6, LeO (digest_Adler.l1 k y0 y1 y2 y3 y4 y5 y6) (digest_Adler.l1 (k + 1) y0 y1 y2 y3 y4 y5 y6))
  | 0 => ⟨fun _ _ _ r h => by simp [digest_Adler.l0] at h, fun _ _ _ _ _ _ _ r h => by simp [digest_Adler.l1] at h⟩
  | k + 1 => by
    obtain ⟨ih0, ih1⟩ := digest_Adler.mono_l k
    refine ⟨?_, ?_⟩
    · intro y0 y1 y2
      unfold digest_Adler.l0
      repeat' first
      | (with_reducible exact ih0 _ _ _)
      | (with_reducible exact ih1 _ _ _ _ _ _ _)
      | (with_reducible exact LeO.refl _)
      | (with_reducible exact LeO.none _)
      | (with_reducible refine LeO.ite ?_ ?_)
      | (with_reducible refine LeO.bind ?_ (fun _ => ?_))
      | exact ih0 _ _ _
      | exact ih1 _ _ _ _ _ _ _
      | exact LeO.none _
      | refine LeO.ite ?_ ?_
      | refine LeO.bind ?_ (fun _ => ?_)
    · intro y0 y1 y2 y3 y4 y5 y6
      unfold digest_Adler.l1
      repeat' first
      | (with_reducible exact ih0 _ _ _)
      | (with_reducible exact ih1 _ _ _ _ _ _ _)
      | (with_reducible exact LeO.refl _)
      | (with_reducible exact LeO.none _)
      | (with_reducible refine LeO.ite ?_ ?_)
      | (with_reducible refine LeO.bind ?_ (fun _ => ?_))
      | exact ih0 _ _ _
      | exact ih1 _ _ _ _ _ _ _
      | exact LeO.none _
      | refine LeO.ite ?_ ?_
      | refine LeO.bind ?_ (fun _ => ?_)
theorem digest_Adler.mono : ∀ a0 k, LeO (digest_Adler.f k a0) (digest_Adler.f (k + 1) a0) := by
  intro a0 k
  obtain ⟨ih0, ih1⟩ := digest_Adler.mono_l k
  unfold digest_Adler.f
  repeat' first
      | (with_reducible exact ih0 _ _ _)
      | (with_reducible exact ih1 _ _ _ _ _ _ _)
      | (with_reducible exact LeO.refl _)
      | (with_reducible exact LeO.none _)
      | (with_reducible refine LeO.ite ?_ ?_)
      | (with_reducible refine LeO.bind ?_ (fun _ => ?_))
      | exact ih0 _ _ _
      | exact ih1 _ _ _ _ _ _ _
      | exact LeO.none _
      | refine LeO.ite ?_ ?_
      | refine LeO.bind ?_ (fun _ => ?_)
set_option maxHeartbeats 8000000 in
set_option maxRecDepth 100000 in
theorem digest_Adler.calls (k : Nat) (P0_ : Nat → Prop) (A0 : Option Addr) (c0 : Nat) (l0 : List Int) (r : Int) (w : World) (hs0 : Kd.V (Kd.int .u8) 5 w w.heap.size (fun k_ => P0_ k_) (.slice A0 l0.length c0) l0) (h : digest_Adler.f k l0 = some r) :
    Calls Try.prog 7 #[.slice A0 l0.length c0] w fun e w' => e = .returned (.int .u32 r) ∧ Below w.heap.size w w' := by
  have HO0 := Aside0.mk (show Kd.V (Kd.int .u8) 5 w w.heap.size (fun k_ => (P0_ k_ ∨ w.heap.size ≤ k_)) (.slice A0 l0.length c0) l0 from Kd.V_mono hs0 (fun k_ hk => .inl hk))
  have HB := Aside0.mk (Below.refl w.heap.size w)
  have H : (digest_Adler.l0 k l0 1 0) = some r := h
  clear h
  have H' := Aside0.mk H
  clear H
  go_enter Try.func7, Try.ntmps7
  go_wp2
  repeat (go_quiet (fail); try go_wp2)
  go_loopg [0, 3, 4] k (fun kq v0 v3 v4 w' => ∃ (x0_1 : List Int) (x3_1 : Int) (x4_1 : Int), v3 = .int .i64 x3_1 ∧ v4 = .int .i64 x4_1 ∧ Aside0 (digest_Adler.l0 kq x0_1 x3_1 x4_1 = some r) ∧ Aside0 (kq ≤ k) ∧ Aside0 (Kd.V (Kd.int .u8) 5 w' w.heap.size (fun k_ => (P0_ k_ ∨ w.heap.size ≤ k_)) v0 x0_1) ∧ Aside0 (Below w.heap.size w w'))
  case atStart => exact ⟨(l0), (1), (0), (by first | rfl | (simp; done) | (simp [*]; done)), (by first | rfl | (simp; done) | (simp [*]; done)), H', ⟨Nat.le_refl _⟩, ⟨by (with_reducible repeat (first | apply Kd.V_alloc | apply Kd.V_drewN | apply Kd.V_drew)); exact HO0.out⟩, ⟨by repeat (first | (with_reducible first | exact HB.out | apply below_alloc | apply pw_below_drewN | apply below_drew1) | exact HB.out)⟩⟩
  case round =>
    clear H'
    obtain ⟨x0_1, x3_1, x4_1, rfl, rfl, HA, HK1, HO_0, HB⟩ := hrel
    cases gk with
    | zero => exact absurd HA.out (by simp [digest_Adler.l0])
    | succ k1 =>
      have H := HA.out
      clear HA
      simp only [digest_Adler.l0] at H
      by_cases c2 : (x0_1.length : Int) > 0
      · rw [if_pos c2] at H
        have c2b0 : decide (0 < (x0_1.length : Int)) = true := decide_eq_true c2
        have c2b1 : decide (0 < x0_1.length) = true := decide_eq_true (by omega)
        clear c2
        obtain ⟨ji3, hji3⟩ : ∃ j_ : Int, (mn (x0_1.length : Int) 3000) = j_ := ⟨_, rfl⟩
        replace H : (if 0 ≤ (ji3) then (if (ji3) ≤ (x0_1.length : Int) then ((some (x0_1.take ((ji3) : Int).toNat : List Int)).bind fun y111 => (digest_Adler.l1 k1 x0_1 x3_1 x4_1 y111 y111 (y111.length : Int) 0)) else (none)) else (none)) = some r := by first | (rw [hji3] at H; exact H) | (simp only [hji3] at H ⊢; exact H)
        have hji3_ : (if 3000 < (x0_1.length : Int) then 3000 else (x0_1.length : Int)) = ji3 := hji3
        by_cases c4 : 0 ≤ (ji3)
        · rw [if_pos c4] at H
          have c4b0 := eq_true c4
          have c4b1 : decide (0 ≤ (ji3)) = true := decide_eq_true c4
          clear c4
          by_cases c5 : (ji3) ≤ (x0_1.length : Int)
          · rw [if_pos c5] at H
            have c5b0 := eq_true c5
            have c5b1 : decide ((ji3) ≤ (x0_1.length : Int)) = true := decide_eq_true c5
            clear c5
            obtain ⟨y111, hy111⟩ : ∃ y_ : List Int, y_ = (x0_1.take ((ji3) : Int).toNat) := ⟨_, rfl⟩
            replace H : (digest_Adler.l1 k1 x0_1 x3_1 x4_1 y111 y111 (y111.length : Int) 0) = some r := by first | (rw [hy111]; with_reducible exact H) | (have H2_ := (Option.bind_some _ _).symm.trans H; rw [hy111]; with_reducible exact H2_) | (have H2_ := (Option.bind_some _ _).symm.trans H; with_reducible exact H2_) | with_reducible exact H | (rw [hy111]; exact H) | exact H
            have Ny111 := Aside0.mk hy111
            clear hy111
            have H' := Aside0.mk H
            clear H
            obtain ⟨Ao6, co6, eo6⟩ := Kd.V_slice HO_0.out
            subst eo6
            have q7 : ((ji3) : Int) ≤ ((x0_1.length : Int) : Int) := of_decide_eq_true (by first | (with_reducible assumption) | assumption)
            obtain ⟨i07, hi07, _, hsz7, _⟩ := info_parts info5
            have hroom7 : x0_1.length ≤ co6 := (Kd.V_reads' HO_0.out).2.1
            have hC7 : Kd.F (Kd.int .u8) _ _ Ao6 x0_1.length x0_1 := (Kd.V_at (base := w.heap.size) HO_0.out).2.2
            have hcut7 := cut_to (P := Try.prog) 22 5 .i64 Try.underlying22 hi07 Ao6 x0_1.length co6 (ji3) (of_decide_eq_true (by first | (with_reducible assumption) | assumption)) q7 hroom7
            have hr7 := Kd.F_take (m := ((ji3) : Int).toNat) hC7 (by omega)
            have hy7 : y111.length = ((ji3) : Int).toNat := (by rw [Ny111.out, List.length_take]; omega)
            rw [← Ny111.out] at hr7
            rw [← hy7] at hcut7
            have HO115 := Aside0.mk (show Kd.V (Kd.int .u8) 5 _ w.heap.size _ (.slice Ao6 y111.length co6) y111 from Kd.V_mk (by omega) hr7)
            have HC115 := Aside0.mk (show y111.length ≤ co6 from by omega)
            clear hr7 hC7 hroom7 hi07 hsz7
            have KY7 := Aside0.mk hy7
            clear hy7
            replace q7 := eq_true q7
            go_wp2
            repeat (go_quiet (fail); try go_wp2)
            go_loopg [3, 4, 18] k1 (fun kq v3 v4 v18 w' => ∃ (x3_2 : Int) (x4_2 : Int) (x18_2 : Int), v3 = .int .i64 x3_2 ∧ v4 = .int .i64 x4_2 ∧ v18 = .int .i64 x18_2 ∧ Aside0 (digest_Adler.l1 kq x0_1 x3_2 x4_2 y111 y111 (y111.length : Int) x18_2 = some r) ∧ Aside0 (kq ≤ k1) ∧ Aside0 (Kd.V (Kd.int .u8) 5 w' w.heap.size (fun k_ => (P0_ k_ ∨ w.heap.size ≤ k_)) (.slice Ao6 x0_1.length co6) x0_1) ∧ Aside0 (Kd.V (Kd.int .u8) 5 w' w.heap.size (fun k_ => (P0_ k_ ∨ w.heap.size ≤ k_)) (.slice Ao6 y111.length co6) y111) ∧ Aside0 (Kd.V (Kd.int .u8) 5 w' w.heap.size (fun k_ => (P0_ k_ ∨ w.heap.size ≤ k_)) (.slice Ao6 y111.length co6) y111) ∧ Aside0 (Below w.heap.size w w'))
            case atStart => exact ⟨(x3_1), (x4_1), (0), (by first | rfl | (simp; done) | (simp [*]; done)), (by first | rfl | (simp; done) | (simp [*]; done)), (by first | rfl | (simp; done) | (simp [*]; done)), H', ⟨Nat.le_refl _⟩, ⟨by (with_reducible repeat (first | apply Kd.V_alloc | apply Kd.V_drewN | apply Kd.V_drew)); exact HO_0.out⟩, ⟨by (with_reducible repeat (first | apply Kd.V_alloc | apply Kd.V_drewN | apply Kd.V_drew)); exact HO115.out⟩, ⟨by (with_reducible repeat (first | apply Kd.V_alloc | apply Kd.V_drewN | apply Kd.V_drew)); exact HO115.out⟩, ⟨by repeat (first | (with_reducible first | exact HB.out | apply below_alloc | apply pw_below_drewN | apply below_drew1) | exact HB.out)⟩⟩
            case round =>
              clear H'
              try clear c2
              try clear c2b0
              try clear c2b1
              try clear p2
              try clear c4
              try clear c4b0
              try clear c4b1
              try clear c5
              try clear c5b0
              try clear c5b1
              try clear c7
              try clear q7
              try clear q7
              obtain ⟨x3_2, x4_2, x18_2, rfl, rfl, rfl, HA, HK2, HO_0, HO_5, HO_16, HB⟩ := hrel
              cases gk with
              | zero => exact absurd HA.out (by simp [digest_Adler.l1])
              | succ k2 =>
                have H := HA.out
                clear HA
                simp only [digest_Adler.l1] at H
                by_cases c8 : x18_2 < (y111.length : Int)
                · rw [if_pos c8] at H
                  have c8b0 : decide (x18_2 < (y111.length : Int)) = true := decide_eq_true c8
                  clear c8
                  by_cases c9 : 0 ≤ x18_2
                  · rw [if_pos c9] at H
                    have c9b0 : decide (0 ≤ x18_2) = true := decide_eq_true c9
                    clear c9
                    by_cases c10 : x18_2 < (y111.length : Int)
                    · rw [if_pos c10] at H
                      have c10b0 : decide (x18_2 < (y111.length : Int)) = true := decide_eq_true c10
                      clear c10
                      have H' := Aside0.mk H
                      clear H
                      have p116 : 0 ≤ (x18_2 : Int) := of_decide_eq_true (by first | (with_reducible assumption) | assumption)
                      have q116 : x18_2 < (y111.length : Int) := of_decide_eq_true (by first | (with_reducible assumption) | assumption)
                      obtain ⟨ad116, e116, hx116_0⟩ := Kd.at_int (Kd.V_reads' HO_16.out).2.2 x18_2 p116 q116
                      cases e116
                      replace p116 := eq_true p116
                      replace q116 := eq_true q116
                      go_wp2
                      repeat (go_quiet (fail); try go_wp2)
                      go_roundg k2
                      case measure => have := HK1.out; have := HK2.out; omega
                      case rel => exact ⟨(wrap64 (x3_2 + (wrap64 (rd y111 x18_2)))), (wrap64 (x4_2 + (wrap64 (x3_2 + (wrap64 (rd y111 x18_2)))))), (wrap64 (x18_2 + 1)), (by first | rfl | (simp; done) | (simp [*]; done)), (by first | rfl | (simp; done) | (simp [*]; done)), (by first | rfl | (simp; done) | (simp [*]; done)), H', ⟨by have := HK1.out; have := HK2.out; omega⟩, ⟨by (with_reducible repeat (first | apply Kd.V_alloc | apply Kd.V_drewN | apply Kd.V_drew)); exact HO_0.out⟩, ⟨by (with_reducible repeat (first | apply Kd.V_alloc | apply Kd.V_drewN | apply Kd.V_drew)); exact HO_5.out⟩, ⟨by (with_reducible repeat (first | apply Kd.V_alloc | apply Kd.V_drewN | apply Kd.V_drew)); exact HO_16.out⟩, ⟨by repeat (first | (with_reducible first | exact HB.out | apply below_alloc | apply pw_below_drewN | apply below_drew1) | exact HB.out)⟩⟩
                    · rw [if_neg c10] at H
                      exact absurd H (by simp)
                  · rw [if_neg c9] at H
                    exact absurd H (by simp)
                · rw [if_neg c8] at H
                  have c8b0 : decide (x18_2 < (y111.length : Int)) = false := decide_eq_false c8
                  clear c8
                  by_cases c11 : 0 ≤ (y111.length : Int)
                  · rw [if_pos c11] at H
                    have c11b0 := eq_true c11
                    have c11b1 : decide (0 ≤ (y111.length : Int)) = true := decide_eq_true c11
                    clear c11
                    by_cases c12 : (y111.length : Int) ≤ (x0_1.length : Int)
                    · rw [if_pos c12] at H
                      have c12b0 := eq_true c12
                      have c12b1 : decide ((y111.length : Int) ≤ (x0_1.length : Int)) = true := decide_eq_true c12
                      clear c12
                      obtain ⟨y117, hy117⟩ : ∃ y_ : List Int, y_ = (x0_1.drop ((y111.length : Int) : Int).toNat) := ⟨_, rfl⟩
                      replace H : (digest_Adler.l0 k2 y117 (Int.tmod x3_2 65521) (Int.tmod x4_2 65521)) = some r := by first | (rw [hy117]; with_reducible exact H) | (have H2_ := (Option.bind_some _ _).symm.trans H; rw [hy117]; with_reducible exact H2_) | (have H2_ := (Option.bind_some _ _).symm.trans H; with_reducible exact H2_) | with_reducible exact H | (rw [hy117]; exact H) | exact H
                      have Ny117 := Aside0.mk hy117
                      clear hy117
                      have H' := Aside0.mk H
                      clear H
                      have q13 : ((y111.length : Int) : Int) ≤ ((x0_1.length : Int) : Int) := of_decide_eq_true (by first | (with_reducible assumption) | assumption)
                      obtain ⟨i013, hi013, _, hsz13, _⟩ := info_parts info5
                      have hroom13 : x0_1.length ≤ co6 := (Kd.V_reads' HO_0.out).2.1
                      have hC13 : Kd.F (Kd.int .u8) _ _ Ao6 x0_1.length x0_1 := (Kd.V_at (base := w.heap.size) HO_0.out).2.2
                      have q013 : (0 : Int) ≤ ((y111.length : Int) : Int) := of_decide_eq_true (by first | (with_reducible assumption) | assumption)
                      have hcut13 := cut_from (P := Try.prog) 22 5 .i64 Try.underlying22 hi013 1 hsz13 Ao6 x0_1.length co6 (y111.length : Int) q013 q13
                      have hr13 := Kd.F_cut (m := ((y111.length : Int) : Int).toNat) (c := co6) hC13 (by omega) hroom13
                      obtain ⟨A13, hA13⟩ : ∃ A1, A1 = (if co6 = ((y111.length : Int) : Int).toNat then Ao6 else (Ao6 : Option Addr).map (·.add (((y111.length : Int) : Int).toNat * 1))) := ⟨_, rfl⟩
                      obtain ⟨c13, hc13⟩ : ∃ c1, c1 = co6 - ((y111.length : Int) : Int).toNat := ⟨_, rfl⟩
                      have hy13 : y117.length = x0_1.length - ((y111.length : Int) : Int).toNat := (by rw [Ny117.out, List.length_drop] <;> omega)
                      rw [show (x0_1).drop ((y111.length : Int) : Int).toNat = y117 from Ny117.out.symm] at hr13
                      replace hr13 : Kd.F (Kd.int .u8) _ _ A13 y117.length y117 := (by rw [hA13]; exact hr13)
                      rw [← hy13, ← hA13, ← hc13] at hcut13
                      have HO121 := Aside0.mk (show Kd.V (Kd.int .u8) 5 _ w.heap.size _ (.slice A13 y117.length c13) y117 from Kd.V_mk (by rw [hy13, hc13]; exact Nat.sub_le_sub_right hroom13 _) hr13)
                      have HC121 := Aside0.mk (show y117.length ≤ c13 from by rw [hy13, hc13]; exact Nat.sub_le_sub_right hroom13 _)
                      clear hr13 hC13 hroom13 hi013 hsz13 hc13
                      have KY13 := Aside0.mk hy13
                      have KA13 := Aside0.mk hA13
                      clear hy13 hA13
                      replace q13 := eq_true q13
                      go_wp2
                      repeat (go_quiet (fail); try go_wp2)
                      go_roundg k2
                      case measure => have := HK1.out; have := HK2.out; omega
                      case rel => exact ⟨(y117), (Int.tmod x3_2 65521), (Int.tmod x4_2 65521), (by first | rfl | (simp; done) | (simp [*]; done)), (by first | rfl | (simp; done) | (simp [*]; done)), H', ⟨by have := HK1.out; have := HK2.out; omega⟩, ⟨by (with_reducible repeat (first | apply Kd.V_alloc | apply Kd.V_drewN | apply Kd.V_drew)); exact HO121.out⟩, ⟨by repeat (first | (with_reducible first | exact HB.out | apply below_alloc | apply pw_below_drewN | apply below_drew1) | exact HB.out)⟩⟩
                    · rw [if_neg c12] at H
                      exact absurd H (by simp)
                  · rw [if_neg c11] at H
                    exact absurd H (by simp)
          · rw [if_neg c5] at H
            exact absurd H (by simp)
        · rw [if_neg c4] at H
          exact absurd H (by simp)
      · rw [if_neg c2] at H
        have c2b0 : decide (0 < (x0_1.length : Int)) = false := decide_eq_false c2
        have c2b1 : decide (0 < x0_1.length) = false := decide_eq_false (by omega)
        clear c2
        obtain rfl := Option.some.inj H
        obtain ⟨Ao14, co14, eo14⟩ := Kd.V_slice HO_0.out
        subst eo14
        go_wp2
        repeat (go_quiet (fail); try go_wp2)
        go_ret
        exact ⟨by first | rfl | (simp [errW_none, errW_some] <;> rfl) | (simp [*, errW_none, errW_some] <;> rfl), by repeat (first | (with_reducible first | exact HB.out | apply below_alloc | apply pw_below_drewN | apply below_drew1) | exact HB.out)⟩

-- NOT PRINTED: function 5 (thermographlaw04_DigestSeeds)

/-! ### thermographref04_Adler: function 8 -/
def thermographref04_Adler.l0 : Nat → List Int → Int → Int → Int → Option (Int)
  | 0, _, _, _, _ => none
  | k + 1, x0, x3, x4, x5 => if x5 < (x0.length : Int) then (if 0 ≤ x5 then (thermographref04_Adler.l0 k x0 (((x3 + ((rd x0 x5) % 4294967296)) % 4294967296) % 65521) (((x4 + (((x3 + ((rd x0 x5) % 4294967296)) % 4294967296) % 65521)) % 4294967296) % 65521) (wrap64 (x5 + 1))) else (none)) else (some ((((x4 * 65536) % 4294967296) + x3) % 4294967296))
def thermographref04_Adler.f (k : Nat) (l0 : List Int) : Option (Int) := thermographref04_Adler.l0 k l0 1 0 0
theorem thermographref04_Adler.mono_l : ∀ k, (∀ y0 y1 y2 y3, LeO (thermographref04_Adler.l0 k y0 y1 y2 y3) (thermographref04_Adler.l0 (k + 1) y0 y1 y2 y3))
  | 0 => fun _ _ _ _ r h => by simp [thermographref04_Adler.l0] at h
  | k + 1 => by
    have ih0 := thermographref04_Adler.mono_l k
    · intro y0 y1 y2 y3
      unfold thermographref04_Adler.l0
      repeat' first
      | (with_reducible exact ih0 _ _ _ _)
      | (with_reducible exact LeO.refl _)
      | (with_reducible exact LeO.none _)
      | (with_reducible refine LeO.ite ?_ ?_)
      | (with_reducible refine LeO.bind ?_ (fun _ => ?_))
      | exact ih0 _ _ _ _
      | exact LeO.none _
      | refine LeO.ite ?_ ?_
      | refine LeO.bind ?_ (fun _ => ?_)
theorem thermographref04_Adler.mono : ∀ a0 k, LeO (thermographref04_Adler.f k a0) (thermographref04_Adler.f (k + 1) a0) := by
  intro a0 k
  have ih0 := thermographref04_Adler.mono_l k
  unfold thermographref04_Adler.f
  repeat' first
      | (with_reducible exact ih0 _ _ _ _)
      | (with_reducible exact LeO.refl _)
      | (with_reducible exact LeO.none _)
      | (with_reducible refine LeO.ite ?_ ?_)
      | (with_reducible refine LeO.bind ?_ (fun _ => ?_))
      | exact ih0 _ _ _ _
      | exact LeO.none _
      | refine LeO.ite ?_ ?_
      | refine LeO.bind ?_ (fun _ => ?_)
set_option maxHeartbeats 8000000 in
set_option maxRecDepth 100000 in
theorem thermographref04_Adler.calls (k : Nat) (A0 : Option Addr) (c0 : Nat) (l0 : List Int) (r : Int) (w : World) (hr0 : Kd.C (Kd.int .u8) w A0 l0.length l0) (hc0 : l0.length ≤ c0) (h : thermographref04_Adler.f k l0 = some r) :
    Calls Try.prog 8 #[.slice A0 l0.length c0] w fun e w' => e = .returned (.int .u32 r) ∧ Drawn0 w w' := by
  have HR0 := Aside0.mk hr0
  have HC0 := Aside0.mk hc0
  clear hr0 hc0
  have H : (thermographref04_Adler.l0 k l0 1 0 0) = some r := h
  clear h
  have H' := Aside0.mk H
  clear H
  go_enter Try.func8, Try.ntmps8
  go_wp2
  go_loopg [3, 4, 5] k (fun kq v3 v4 v5 w' => ∃ (x3_1 : Int) (x4_1 : Int) (x5_1 : Int), v3 = .int .u32 x3_1 ∧ v4 = .int .u32 x4_1 ∧ v5 = .int .i64 x5_1 ∧ Aside0 (thermographref04_Adler.l0 kq l0 x3_1 x4_1 x5_1 = some r) ∧ Aside0 (kq ≤ k) ∧ Drawn0 w w')
  case atStart => exact ⟨(1), (0), (0), (by first | rfl | (simp; done) | (simp [*]; done)), (by first | rfl | (simp; done) | (simp [*]; done)), (by first | rfl | (simp; done) | (simp [*]; done)), H', ⟨Nat.le_refl _⟩, by repeat (first | exact Drawn0.refl _ | apply Drawn0.step)⟩
  case round =>
    clear H'
    obtain ⟨x3_1, x4_1, x5_1, rfl, rfl, rfl, HA, HK1, ⟨m1, rfl⟩⟩ := hrel
    cases gk with
    | zero => exact absurd HA.out (by simp [thermographref04_Adler.l0])
    | succ k1 =>
      have H := HA.out
      clear HA
      simp only [thermographref04_Adler.l0] at H
      by_cases c2 : x5_1 < (l0.length : Int)
      · rw [if_pos c2] at H
        have c2b0 : decide (x5_1 < (l0.length : Int)) = true := decide_eq_true c2
        clear c2
        by_cases c3 : 0 ≤ x5_1
        · rw [if_pos c3] at H
          have c3b0 : decide (0 ≤ x5_1) = true := decide_eq_true c3
          clear c3
          have H' := Aside0.mk H
          clear H
          have p122 : 0 ≤ (x5_1 : Int) := of_decide_eq_true (by first | (with_reducible assumption) | assumption)
          have q122 : x5_1 < (l0.length : Int) := of_decide_eq_true (by first | (with_reducible assumption) | assumption)
          obtain ⟨ad122, e122, hx122_0⟩ := Kd.at_int HR0.out x5_1 p122 q122
          cases e122
          replace p122 := eq_true p122
          replace q122 := eq_true q122
          go_wp2
          go_roundg k1
          case measure => have := HK1.out; omega
          case rel => exact ⟨(((x3_1 + ((rd l0 x5_1) % 4294967296)) % 4294967296) % 65521), (((x4_1 + (((x3_1 + ((rd l0 x5_1) % 4294967296)) % 4294967296) % 65521)) % 4294967296) % 65521), (wrap64 (x5_1 + 1)), (by first | rfl | (simp; done) | (simp [*]; done)), (by first | rfl | (simp; done) | (simp [*]; done)), (by first | rfl | (simp; done) | (simp [*]; done)), H', ⟨by have := HK1.out; omega⟩, by repeat (first | exact Drawn0.refl _ | apply Drawn0.step)⟩
        · rw [if_neg c3] at H
          exact absurd H (by simp)
      · rw [if_neg c2] at H
        have c2b0 : decide (x5_1 < (l0.length : Int)) = false := decide_eq_false c2
        clear c2
        obtain rfl := Option.some.inj H
        go_wp2
        go_ret
        exact ⟨by first | rfl | (simp; done) | (simp [*]; done), by repeat (first | exact Drawn0.refl _ | apply Drawn0.step)⟩

-- NOT PRINTED: function 6 (thermographlaw04_DigestSums)

end Go.Proofs.Ytcppajpkllfpmaa.B
