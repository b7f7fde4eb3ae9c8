/- The plain Lean functions of the seat's Go functions and, for each, that the Go call does what it does; written by a program of this session after the kit's print. -/
import Derived.Test.YtcppajpkllfpmaaGx0
import Derived.Test.YtcppajpkllfpmaaMurmur
import Derived.Test.YtcppajpkllfpmaaRefMur
namespace Go.Proofs.Ytcppajpkllfpmaa.X
end Go.Proofs.Ytcppajpkllfpmaa.X
namespace Go.Proofs.Ytcppajpkllfpmaa.G
open Go.Proofs.Ytcppajpkllfpmaa.X
open Go.RowKit Go.Proofs.YtcppajpkllfpmaaW.PrintWords Go.Proofs.YtcppajpkllfpmaaW.PrintLast Go.Proofs.YtcppajpkllfpmaaW.PrintMore
attribute [local go_sem] max2_int min2_int max_two min_two max_three min_three max_four min_four   -- for this text's walks alone
set_option linter.unusedVariables false
set_option linter.unusedSimpArgs false

/-! ### thermographlaw04_DigestSums: function 6 -/
/-- What the last statement of DigestSums holds on to while its order is drawn: a cell, and two rows that are read. -/
structure Held6 (ad : Addr) (n : Nat) (x : Int) (y : List Int) (A : Option Addr) (l : List Int) (w : World) : Prop where
  cell : w.cell? (ad.add n) = some (.int .u8 x)
  c1 : Kd.C (Kd.int .u8) w (some ad) y.length y
  c2 : Kd.C (Kd.int .u8) w A l.length l
theorem Held6.below {ad : Addr} {n : Nat} {x : Int} {y : List Int} {A : Option Addr} {l : List Int} {w w' : World} (h : Held6 ad n x y A l w) (hb : Below w.heap.size w w') : Held6 ad n x y A l w' :=
  ⟨(hb.cell (World.block_lt_of_cell? _ _ h.cell)).trans h.cell, Kd.C_below h.c1 hb, Kd.C_below h.c2 hb⟩
theorem Held6.drewN {ad : Addr} {n : Nat} {x : Int} {y : List Int} {A : Option Addr} {l : List Int} {w : World} (h : Held6 ad n x y A l w) (m : Nat) : Held6 ad n x y A l (w.drewN m) := ⟨h.cell, Kd.C_drewN h.c1 m, Kd.C_drewN h.c2 m⟩
theorem Held6.conv1 {ad : Addr} {n : Nat} {x : Int} {y : List Int} {A : Option Addr} {l : List Int} {w : World} (h : Held6 ad n x y A l w) (c : Nat) : (convert 22 9 (.slice (some ad) y.length c)).run Try.prog w = .ok (.string (strOfNums y)) w := Kd.C_string (P := Try.prog) Try.underlying22 Try.underlying5 Try.underlying9 h.c1
theorem Held6.conv2 {ad : Addr} {n : Nat} {x : Int} {y : List Int} {A : Option Addr} {l : List Int} {w : World} (h : Held6 ad n x y A l w) (c : Nat) : (convert 22 9 (.slice A l.length c)).run Try.prog w = .ok (.string (strOfNums l)) w := Kd.C_string (P := Try.prog) Try.underlying22 Try.underlying5 Try.underlying9 h.c2

def thermographlaw04_DigestSums.f (l0 : List Int) (a1 : Int) : Option (Bool) := if (l0.length : Int) > 262144 then (some true) else ((some (([] : List Int) : List Int)).bind fun y117 => (if y117.length + l0.length < 140737488355328 then ((some (y117 ++ l0 : List Int)).bind fun y120 => (if y120.length < 140737488355328 then ((some (y120 ++ [77] : List Int)).bind fun y123 => (if 0 ≤ (l0.length : Int) then (if (l0.length : Int) ≤ (y123.length : Int) then ((digest_Adler.f (y123.take ((l0.length : Int) : Int).toNat)).bind fun t130 => ((thermographref04_Adler.f l0).bind fun t131 => (if t130 = t131 then ((digest_Murmur.f (y123.take ((l0.length : Int) : Int).toNat) a1).bind fun t136 => ((thermographref04_Murmur.f l0 a1).bind fun t137 => (if t136 = t137 then (if (l0.length : Int) < (y123.length : Int) then (if (rd y123 (l0.length : Int)) = 77 then (some ((strOfNums (y123.take ((l0.length : Int) : Int).toNat)).toList == (strOfNums l0).toList)) else (some false)) else (none)) else (some false)))) else (some false)))) else (none)) else (none))) else (none))) else (none)))
def thermographlaw04_DigestSums.T6 : Bool × List (List Nat × List Nat) := (true, [([], []), ([], []), ([1], [1]), ([0, 2], [0, 2]), ([3], [3]), ([], []), ([5, 4], [5]), ([4, 6], [4, 6]), ([7, 6], [7]), ([8], [8]), ([8], [8]), ([10, 8], [8, 10]), ([9, 11, 8], [8, 9, 11]), ([8], [8]), ([12, 13, 8, 8], [8, 12, 13]), ([8], [8]), ([8], [8]), ([15, 16, 14, 8], [8, 15, 16]), ([14, 17, 8], [8, 14, 17]), ([8, 18], [8, 18]), ([19, 17], [19]), ([20], [20]), ([20], [20]), ([22, 20], [20, 22]), ([21, 23, 20], [20, 21, 23]), ([24, 20], [20, 24]), ([25, 20], [20, 25]), ([20, 26], [20, 26]), ([27, 20], [27]), ([28], [28]), ([28], [28]), ([30, 28], [28, 30]), ([29, 31, 28], [28, 29, 31]), ([32, 28], [28, 32]), ([28], [28]), ([34, 28], [28, 34]), ([33, 35, 28], [28, 33, 35]), ([28, 36], [28, 36]), ([37, 28, 0, 1, 2, 3, 4, 5, 6, 7, 8, 9, 10, 11, 12, 13, 14, 15, 16, 17, 18, 19, 20, 21, 22, 23, 24, 25, 26, 27, 28, 29, 30, 31, 32, 33, 34, 35, 36, 37], [37])])
def thermographlaw04_DigestSums.B6 : List Nat := [0, 0, 2, 7, 15, 0, 63, 127, 255, 511, 511, 1535, 4095, 511, 16383, 511, 511, 131071, 262143, 524287, 1048575, 2097151, 2097151, 6291455, 16777215, 33554431, 67108863, 134217727, 268435455, 536870911, 536870911, 1610612735, 4294967295, 8589934591, 536870911, 17716740095, 68719476735, 137438953471, 274877906943]
theorem thermographlaw04_DigestSums.tab6 : rtab .any (opsOf Try.f6 6) = thermographlaw04_DigestSums.T6 := by kernel_rfl
theorem thermographlaw04_DigestSums.bits6 : waitsOk thermographlaw04_DigestSums.T6.2 thermographlaw04_DigestSums.B6 = true := by kernel_rfl
set_option maxHeartbeats 8000000 in
set_option maxRecDepth 100000 in
theorem thermographlaw04_DigestSums.calls (A0 : Option Addr) (c0 : Nat) (l0 : List Int) (a1 : Int) (r : Bool) (w : World) (hr0 : Kd.C (Kd.int .u8) w A0 l0.length l0) (hc0 : l0.length ≤ c0) (h : thermographlaw04_DigestSums.f l0 a1 = some r) :
    Calls Try.prog 6 #[.slice A0 l0.length c0, .int .u32 a1] w fun e w' => e = .returned (.bool r) ∧ Below w.heap.size w w' := by
  have HR0 := Aside0.mk hr0
  have HC0 := Aside0.mk hc0
  clear hr0 hc0
  have HB := Aside0.mk (Below.refl w.heap.size w)
  have H : (if (l0.length : Int) > 262144 then (some true) else ((some (([] : List Int) : List Int)).bind fun y117 => (if y117.length + l0.length < 140737488355328 then ((some (y117 ++ l0 : List Int)).bind fun y120 => (if y120.length < 140737488355328 then ((some (y120 ++ [77] : List Int)).bind fun y123 => (if 0 ≤ (l0.length : Int) then (if (l0.length : Int) ≤ (y123.length : Int) then ((digest_Adler.f (y123.take ((l0.length : Int) : Int).toNat)).bind fun t130 => ((thermographref04_Adler.f l0).bind fun t131 => (if t130 = t131 then ((digest_Murmur.f (y123.take ((l0.length : Int) : Int).toNat) a1).bind fun t136 => ((thermographref04_Murmur.f l0 a1).bind fun t137 => (if t136 = t137 then (if (l0.length : Int) < (y123.length : Int) then (if (rd y123 (l0.length : Int)) = 77 then (some ((strOfNums (y123.take ((l0.length : Int) : Int).toNat)).toList == (strOfNums l0).toList)) else (some false)) else (none)) else (some false)))) else (some false)))) else (none)) else (none))) else (none))) else (none)))) = some r := h
  clear h
  by_cases c3 : (l0.length : Int) > 262144
  · rw [if_pos c3] at H
    have c3b0 : decide (262144 < (l0.length : Int)) = true := decide_eq_true c3
    have c3b1 : decide (262144 < l0.length) = true := decide_eq_true (by omega)
    clear c3
    obtain rfl := Option.some.inj H
    go_enter Try.func6, Try.ntmps6
    go_wp2
    go_ret
    exact ⟨by first | rfl | (simp [errW_none, errW_some] <;> rfl) | (simp [*, errW_none, errW_some] <;> rfl), by repeat (first | (with_reducible first | exact HB.out | apply below_alloc | apply pw_below_drewN | apply below_drew1) | exact HB.out)⟩
  · rw [if_neg c3] at H
    have c3b0 : decide (262144 < (l0.length : Int)) = false := decide_eq_false c3
    have c3b1 : decide (262144 < l0.length) = false := decide_eq_false (by omega)
    clear c3
    obtain ⟨y117, hy117⟩ : ∃ y_ : List Int, y_ = (([] : List Int)) := ⟨_, rfl⟩
    replace H : (if y117.length + l0.length < 140737488355328 then ((some (y117 ++ l0 : List Int)).bind fun y120 => (if y120.length < 140737488355328 then ((some (y120 ++ [77] : List Int)).bind fun y123 => (if 0 ≤ (l0.length : Int) then (if (l0.length : Int) ≤ (y123.length : Int) then ((digest_Adler.f (y123.take ((l0.length : Int) : Int).toNat)).bind fun t130 => ((thermographref04_Adler.f l0).bind fun t131 => (if t130 = t131 then ((digest_Murmur.f (y123.take ((l0.length : Int) : Int).toNat) a1).bind fun t136 => ((thermographref04_Murmur.f l0 a1).bind fun t137 => (if t136 = t137 then (if (l0.length : Int) < (y123.length : Int) then (if (rd y123 (l0.length : Int)) = 77 then (some ((strOfNums (y123.take ((l0.length : Int) : Int).toNat)).toList == (strOfNums l0).toList)) else (some false)) else (none)) else (some false)))) else (some false)))) else (none)) else (none))) else (none))) else (none)) = some r := by first | (rw [hy117]; with_reducible exact H) | (have H2_ := (Option.bind_some _ _).symm.trans H; rw [hy117]; with_reducible exact H2_) | (have H2_ := (Option.bind_some _ _).symm.trans H; with_reducible exact H2_) | with_reducible exact H | (rw [hy117]; exact H) | exact H
    have Ny117 := Aside0.mk hy117
    clear hy117
    by_cases c4 : y117.length + l0.length < 140737488355328
    · rw [if_pos c4] at H
      have LMc4 := Aside0.mk c4
      clear c4
      obtain ⟨y120, hy120⟩ : ∃ y_ : List Int, y_ = (y117 ++ l0) := ⟨_, rfl⟩
      replace H : (if y120.length < 140737488355328 then ((some (y120 ++ [77] : List Int)).bind fun y123 => (if 0 ≤ (l0.length : Int) then (if (l0.length : Int) ≤ (y123.length : Int) then ((digest_Adler.f (y123.take ((l0.length : Int) : Int).toNat)).bind fun t130 => ((thermographref04_Adler.f l0).bind fun t131 => (if t130 = t131 then ((digest_Murmur.f (y123.take ((l0.length : Int) : Int).toNat) a1).bind fun t136 => ((thermographref04_Murmur.f l0 a1).bind fun t137 => (if t136 = t137 then (if (l0.length : Int) < (y123.length : Int) then (if (rd y123 (l0.length : Int)) = 77 then (some ((strOfNums (y123.take ((l0.length : Int) : Int).toNat)).toList == (strOfNums l0).toList)) else (some false)) else (none)) else (some false)))) else (some false)))) else (none)) else (none))) else (none)) = some r := by first | (rw [hy120]; with_reducible exact H) | (have H2_ := (Option.bind_some _ _).symm.trans H; rw [hy120]; with_reducible exact H2_) | (have H2_ := (Option.bind_some _ _).symm.trans H; with_reducible exact H2_) | with_reducible exact H | (rw [hy120]; exact H) | exact H
      have Ny120 := Aside0.mk hy120
      clear hy120
      by_cases c5 : y120.length < 140737488355328
      · rw [if_pos c5] at H
        have LMc5 := Aside0.mk c5
        clear c5
        obtain ⟨y123, hy123⟩ : ∃ y_ : List Int, y_ = (y120 ++ [77]) := ⟨_, rfl⟩
        replace H : (if 0 ≤ (l0.length : Int) then (if (l0.length : Int) ≤ (y123.length : Int) then ((digest_Adler.f (y123.take ((l0.length : Int) : Int).toNat)).bind fun t130 => ((thermographref04_Adler.f l0).bind fun t131 => (if t130 = t131 then ((digest_Murmur.f (y123.take ((l0.length : Int) : Int).toNat) a1).bind fun t136 => ((thermographref04_Murmur.f l0 a1).bind fun t137 => (if t136 = t137 then (if (l0.length : Int) < (y123.length : Int) then (if (rd y123 (l0.length : Int)) = 77 then (some ((strOfNums (y123.take ((l0.length : Int) : Int).toNat)).toList == (strOfNums l0).toList)) else (some false)) else (none)) else (some false)))) else (some false)))) else (none)) else (none)) = some r := by first | (rw [hy123]; with_reducible exact H) | (have H2_ := (Option.bind_some _ _).symm.trans H; rw [hy123]; with_reducible exact H2_) | (have H2_ := (Option.bind_some _ _).symm.trans H; with_reducible exact H2_) | with_reducible exact H | (rw [hy123]; exact H) | exact H
        have Ny123 := Aside0.mk hy123
        clear hy123
        by_cases c6 : 0 ≤ (l0.length : Int)
        · rw [if_pos c6] at H
          have c6b0 := eq_true c6
          have c6b1 : decide (0 ≤ (l0.length : Int)) = true := decide_eq_true c6
          clear c6
          by_cases c7 : (l0.length : Int) ≤ (y123.length : Int)
          · rw [if_pos c7] at H
            have c7b0 := eq_true c7
            have c7b1 : decide ((l0.length : Int) ≤ (y123.length : Int)) = true := decide_eq_true c7
            clear c7
            obtain ⟨y126, hy126⟩ : ∃ y_ : List Int, y_ = (y123.take ((l0.length : Int) : Int).toNat) := ⟨_, rfl⟩
            replace H : ((digest_Adler.f y126).bind fun t130 => ((thermographref04_Adler.f l0).bind fun t131 => (if t130 = t131 then ((digest_Murmur.f (y123.take ((l0.length : Int) : Int).toNat) a1).bind fun t136 => ((thermographref04_Murmur.f l0 a1).bind fun t137 => (if t136 = t137 then (if (l0.length : Int) < (y123.length : Int) then (if (rd y123 (l0.length : Int)) = 77 then (some ((strOfNums (y123.take ((l0.length : Int) : Int).toNat)).toList == (strOfNums l0).toList)) else (some false)) else (none)) else (some false)))) else (some false)))) = some r := by first | (rw [hy126]; with_reducible exact H) | (have H2_ := (Option.bind_some _ _).symm.trans H; rw [hy126]; with_reducible exact H2_) | (have H2_ := (Option.bind_some _ _).symm.trans H; with_reducible exact H2_) | with_reducible exact H | (rw [hy126]; exact H) | exact H
            have Ny126 := Aside0.mk hy126
            clear hy126
            replace H := Option.bind_eq_some_iff.mp H
            obtain ⟨t130, A80, H⟩ := H
            replace H : ((thermographref04_Adler.f l0).bind fun t131 => (if t130 = t131 then ((digest_Murmur.f (y123.take ((l0.length : Int) : Int).toNat) a1).bind fun t136 => ((thermographref04_Murmur.f l0 a1).bind fun t137 => (if t136 = t137 then (if (l0.length : Int) < (y123.length : Int) then (if (rd y123 (l0.length : Int)) = 77 then (some ((strOfNums (y123.take ((l0.length : Int) : Int).toNat)).toList == (strOfNums l0).toList)) else (some false)) else (none)) else (some false)))) else (some false))) = some r := H
            have A8 := Aside0.mk A80
            clear A80
            replace H := Option.bind_eq_some_iff.mp H
            obtain ⟨t131, A90, H⟩ := H
            replace H : (if t130 = t131 then ((digest_Murmur.f (y123.take ((l0.length : Int) : Int).toNat) a1).bind fun t136 => ((thermographref04_Murmur.f l0 a1).bind fun t137 => (if t136 = t137 then (if (l0.length : Int) < (y123.length : Int) then (if (rd y123 (l0.length : Int)) = 77 then (some ((strOfNums (y123.take ((l0.length : Int) : Int).toNat)).toList == (strOfNums l0).toList)) else (some false)) else (none)) else (some false)))) else (some false)) = some r := H
            have A9 := Aside0.mk A90
            clear A90
            by_cases c10 : t130 = t131
            · rw [if_pos c10] at H
              have c10b0 : (t130 == t131) = true := beq_iff_eq.mpr c10
              have c10b1 : (t130 != t131) = false := bne_eq_false_iff_eq.mpr c10
              clear c10
              have c11b0 := eq_true (of_decide_eq_true (by first | (with_reducible assumption) | assumption) : 0 ≤ (l0.length : Int))
              have c12b0 := eq_true (of_decide_eq_true (by first | (with_reducible assumption) | assumption) : (l0.length : Int) ≤ (y123.length : Int))
              obtain ⟨y132, hy132⟩ : ∃ y_ : List Int, y_ = (y123.take ((l0.length : Int) : Int).toNat) := ⟨_, rfl⟩
              replace H : ((digest_Murmur.f y132 a1).bind fun t136 => ((thermographref04_Murmur.f l0 a1).bind fun t137 => (if t136 = t137 then (if (l0.length : Int) < (y123.length : Int) then (if (rd y123 (l0.length : Int)) = 77 then (some ((strOfNums (y123.take ((l0.length : Int) : Int).toNat)).toList == (strOfNums l0).toList)) else (some false)) else (none)) else (some false)))) = some r := by first | (rw [hy132]; with_reducible exact H) | (have H2_ := (Option.bind_some _ _).symm.trans H; rw [hy132]; with_reducible exact H2_) | (have H2_ := (Option.bind_some _ _).symm.trans H; with_reducible exact H2_) | with_reducible exact H | (rw [hy132]; exact H) | exact H
              have Ny132 := Aside0.mk hy132
              clear hy132
              replace H := Option.bind_eq_some_iff.mp H
              obtain ⟨t136, A130, H⟩ := H
              replace H : ((thermographref04_Murmur.f l0 a1).bind fun t137 => (if t136 = t137 then (if (l0.length : Int) < (y123.length : Int) then (if (rd y123 (l0.length : Int)) = 77 then (some ((strOfNums (y123.take ((l0.length : Int) : Int).toNat)).toList == (strOfNums l0).toList)) else (some false)) else (none)) else (some false))) = some r := H
              have A13 := Aside0.mk A130
              clear A130
              replace H := Option.bind_eq_some_iff.mp H
              obtain ⟨t137, A140, H⟩ := H
              replace H : (if t136 = t137 then (if (l0.length : Int) < (y123.length : Int) then (if (rd y123 (l0.length : Int)) = 77 then (some ((strOfNums (y123.take ((l0.length : Int) : Int).toNat)).toList == (strOfNums l0).toList)) else (some false)) else (none)) else (some false)) = some r := H
              have A14 := Aside0.mk A140
              clear A140
              by_cases c15 : t136 = t137
              · rw [if_pos c15] at H
                have c15b0 : (t136 == t137) = true := beq_iff_eq.mpr c15
                have c15b1 : (t136 != t137) = false := bne_eq_false_iff_eq.mpr c15
                clear c15
                by_cases c16 : (l0.length : Int) < (y123.length : Int)
                · rw [if_pos c16] at H
                  have c16b0 : decide ((l0.length : Int) < (y123.length : Int)) = true := decide_eq_true c16
                  have c16b1 : decide (l0.length < y123.length) = true := decide_eq_true (Int.ofNat_lt.mp c16)
                  clear c16
                  by_cases c17 : (rd y123 (l0.length : Int)) = 77
                  · rw [if_pos c17] at H
                    have c17b0 : ((rd y123 (l0.length : Int)) == 77) = true := beq_iff_eq.mpr c17
                    have c17b1 : ((rd y123 (l0.length : Int)) != 77) = false := bne_eq_false_iff_eq.mpr c17
                    clear c17
                    have c18b0 := eq_true (of_decide_eq_true (by first | (with_reducible assumption) | assumption) : 0 ≤ (l0.length : Int))
                    have c19b0 := eq_true (of_decide_eq_true (by first | (with_reducible assumption) | assumption) : (l0.length : Int) ≤ (y123.length : Int))
                    obtain ⟨y139, hy139⟩ : ∃ y_ : List Int, y_ = (y123.take ((l0.length : Int) : Int).toNat) := ⟨_, rfl⟩
                    replace H : (some ((strOfNums y139).toList == (strOfNums l0).toList)) = some r := by first | (rw [hy139]; with_reducible exact H) | (have H2_ := (Option.bind_some _ _).symm.trans H; rw [hy139]; with_reducible exact H2_) | (have H2_ := (Option.bind_some _ _).symm.trans H; with_reducible exact H2_) | with_reducible exact H | (rw [hy139]; exact H) | exact H
                    have Ny139 := Aside0.mk hy139
                    clear hy139
                    obtain rfl := Option.some.inj H
                    go_enter Try.func6, Try.ntmps6
                    try go_wp2_with (first | ((with_reducible refine gate_dst (N := 9) rfl ?_); (try (refine gate_guard (by rfl) ?_; dsimp only)); refine Kd.R_lit (Kd.int .u8) _ 5 ?hg (N := 9) ?hd (xs := ([] : List Int)) (inner := []) (ok := fun _ => True) (okp := fun _ => True) ?hr ?hp (fun _ hk => hk) trivial (Below.refl _ _) (Nat.le_refl _) (by simp) ?_; (case hd => rfl); (case hg => rfl); (case hr => first | (go_simp; done) | (go_simp; rfl)); (case hp => exact (Reps.none _ _)); intro v118 w20 ho21 hb hg_ hnew_; clear hg_ hnew_; (first | rw [← Ny117.out] at ho21 | (simp only [Int.reduceToNat] at ho21; rw [← Ny117.out] at ho21)); have n0_ := Aside0.mk (Kd.R_lower ho21 (below_size (by repeat (first | (with_reducible first | exact HB.out | apply below_alloc | apply pw_below_drewN | apply below_drew1) | exact HB.out)))); have n1_ := Aside0.mk (below_step (by repeat (first | (with_reducible first | exact HB.out | apply below_alloc | apply pw_below_drewN | apply below_drew1) | exact HB.out)) hb); clear HB; have HO119 := n0_; have HB := n1_; clear n0_ n1_; clear hb ho21) | ((with_reducible refine gate_builtin (b := .append) (xs := #[.tmp 10, .tmp 11]) rfl ?_); (try (refine gate_guard (by rfl) ?_; dsimp only)); at_builtin; refine Kd.R_append_rows (Kd.int .u8) (w0 := w) w.heap.size rfl (.tmp 10) (.tmp 11) 22 5 (.int .u8 0) 1 rfl Try.underlying22 info5 rfl (by decide) (by omega) v118 y117 l0 _ _ _ (fun _ => True) (fun _ => False) rfl rfl ?aO ?aR (fun _ _ h => h) (fun _ h => h.elim) ?aF ?aB ?aS ?aL ?_; (case aR => repeat (first | exact (Kd.C_below HR0.out HB.out) | (with_reducible refine Kd.C_alloc ?_ _) | (with_reducible refine Kd.C_drewN ?_ _) | (with_reducible refine Kd.C_drew ?_))); (case aB => exact (by repeat (first | (with_reducible first | exact HB.out | apply below_alloc | apply pw_below_drewN | apply below_drew1) | exact HB.out))); (case aF => exact (fun _ _ => trivial)); (case aO => exact (by (with_reducible repeat (first | apply Kd.R_alloc | apply Kd.R_drewN | apply Kd.R_drew)); exact HO119.out)); (case aS => exact (below_size (by repeat (first | (with_reducible first | exact HB.out | apply below_alloc | apply pw_below_drewN | apply below_drew1) | exact HB.out)))); (case aL => have := LMc4.out; omega); intro v121 w22 ho hb hg hat; rw [← Ny120.out] at ho; have n0_ := Aside0.mk (hb); have n1_ := Aside0.mk (ho); clear HB; clear HO119; have HB := n0_; have HO122 := n1_; clear n0_ n1_; clear ho hb hg hat) | ((with_reducible refine gate_builtin (b := .append) (xs := #[.tmp 13, .tmp 14]) rfl ?_); (try (refine gate_guard (by rfl) ?_; dsimp only)); at_builtin; refine Kd.R_append (Kd.int .u8) (w0 := w) w.heap.size rfl (.tmp 13) (.tmp 14) 22 5 (.int .u8 0) 1 rfl Try.underlying22 info5 rfl (by decide) (by omega) v121 y120 77 [.int .u8 77] (fun _ => True) (fun _ => False) rfl rfl ?aP (fun _ hk => hk.elim) ?aF ?aO ?aB ?aS ?aL ?_; (case aP => exact rfl); (case aB => exact (by repeat (first | (with_reducible first | exact HB.out | apply below_alloc | apply pw_below_drewN | apply below_drew1) | exact HB.out))); (case aF => exact (fun _ _ => trivial)); (case aO => exact (by (with_reducible repeat (first | apply Kd.R_alloc | apply Kd.R_drewN | apply Kd.R_drew)); exact HO122.out)); (case aS => exact (below_size (by repeat (first | (with_reducible first | exact HB.out | apply below_alloc | apply pw_below_drewN | apply below_drew1) | exact HB.out)))); (case aL => have := LMc5.out; omega); intro v124 w23 ho hb hg hat; rw [← Ny123.out] at ho; have n0_ := Aside0.mk (hb); have n1_ := Aside0.mk (ho); clear HB; clear HO122; have HB := n0_; have HO125 := n1_; clear n0_ n1_; clear ho hb hg hat))
                    have n0_ := Aside0.mk (Kd.R_drew HO125.out)
                    have n1_ := Aside0.mk (below_drew1 HB.out)
                    clear HO125
                    clear HB
                    have HO125 := n0_
                    have HB := n1_
                    clear n0_ n1_
                    obtain ⟨Ao26, co26, eo26⟩ := Kd.R_slice HO125.out
                    (first | subst eo26 | (injection eo26 with f1_ f2_ f3_; have f4_ := f1_.symm; have f5_ := f3_.symm; clear f1_ f2_ f3_; subst f4_; subst f5_))
                    have q25 : ((l0.length : Int) : Int) ≤ ((y123.length : Int) : Int) := of_decide_eq_true (by first | (with_reducible assumption) | assumption)
                    obtain ⟨i025, hi025, _, hsz25, _⟩ := info_parts info5
                    have hroom25 : y123.length ≤ co26 := (Kd.R_reads' HO125.out).2.1
                    have hC25 : Kd.C (Kd.int .u8) _ Ao26 y123.length y123 := (Kd.R_reads' HO125.out).2.2
                    have hcut25 := cut_to (P := Try.prog) 22 5 .i64 Try.underlying22 hi025 Ao26 y123.length co26 (l0.length : Int) (of_decide_eq_true (by first | (with_reducible assumption) | assumption)) q25 hroom25
                    have hr25 := Kd.C_take (m := ((l0.length : Int) : Int).toNat) hC25 (by omega)
                    have hy25 : y126.length = ((l0.length : Int) : Int).toNat := (by rw [Ny126.out, List.length_take]; omega)
                    rw [← Ny126.out] at hr25
                    rw [← hy25] at hcut25
                    have HR129 := Aside0.mk hr25
                    have HC129 := Aside0.mk (show y126.length ≤ co26 from by omega)
                    clear hr25 hC25 hroom25 hi025 hsz25
                    have KY25 := Aside0.mk hy25
                    clear hy25
                    have KL25 := Aside0.mk (show ((l0.length : Int) : Int).toNat ≤ y123.length from by omega)
                    replace q25 := eq_true q25
                    have p138 : 0 ≤ ((l0.length : Int) : Int) := of_decide_eq_true (by first | (with_reducible assumption) | assumption)
                    have q138 : (l0.length : Int) < (y123.length : Int) := of_decide_eq_true (by first | (with_reducible assumption) | assumption)
                    obtain ⟨ad138, e138, hx138_0⟩ := Kd.at_int (Kd.R_reads' HO125.out).2.2 (l0.length : Int) p138 q138
                    cases e138
                    (try simp only [Go.IntWalk.toNatUp] at hx138_0)
                    replace p138 := eq_true p138
                    replace q138 := eq_true q138
                    refine start_ (n := 39) (S := Held6 ad138 l0.length (rd y123 (l0.length : Int)) y139 A0 l0) (ds := []) #[false, false, false, false, false, false, false, false, false, false, false, false, false, false, false, false, false, false, false, false, false, false, false, false, false, false, false, false, false, false, false, false, false, false, false, false, false, false, false] (by kernel_rfl) rfl rfl ⟨by simpa only [Int.toNat_natCast] using hx138_0, by rw [Ny139.out]; exact Kd.C_take (m := ((l0.length : Int) : Int).toNat) (Kd.R_reads' HO125.out).2.2 (by have := of_eq_true c7b0; omega), Kd.C_below HR0.out HB.out⟩ (fun hHeld => ?_); refine with_tabW thermographlaw04_DigestSums.tab6 thermographlaw04_DigestSums.bits6 (fun HT_ HW_ => ?_)
                    generalize w23.drew = w24 at HO125 HB HR129 hx138_0 hHeld ⊢
                    refine pure_ (i := 0) (N := some 16) (v := ?_) (a' := ?_) #[true, false, false, false, false, false, false, false, false, false, false, false, false, false, false, false, false, false, false, false, false, false, false, false, false, false, false, false, false, false, false, false, false, false, false, false, false, false, false] rfl rfl (any_of HT_.out (by kernel_rfl)) (fun _ _ _ h => h) (Or.inl ⟨by rfl, ?_⟩) ?_ ?_
                    rotate_left
                    · intro w'
                      go_simp
                      with_reducible rfl
                    rotate_left
                    · simp only [Act.put, List.setIfInBounds_toArray, List.set_cons_zero, List.set_cons_succ, i64_w, i32_w]
                      rfl
                    refine pure_ (i := 1) (N := some 17) (v := ?_) (a' := ?_) #[true, true, false, false, false, false, false, false, false, false, false, false, false, false, false, false, false, false, false, false, false, false, false, false, false, false, false, false, false, false, false, false, false, false, false, false, false, false, false] rfl rfl (any_of HT_.out (by kernel_rfl)) (fun _ _ _ h => h) (Or.inl ⟨by rfl, ?_⟩) ?_ ?_
                    rotate_left
                    · intro w'
                      go_simp
                      with_reducible rfl
                    rotate_left
                    · simp only [Act.put, List.setIfInBounds_toArray, List.set_cons_zero, List.set_cons_succ, i64_w, i32_w]
                      rfl
                    refine pure_ (i := 2) (N := some 18) (v := ?_) (a' := ?_) #[true, true, true, false, false, false, false, false, false, false, false, false, false, false, false, false, false, false, false, false, false, false, false, false, false, false, false, false, false, false, false, false, false, false, false, false, false, false, false] rfl rfl (any_of HT_.out (by kernel_rfl)) (fun _ _ _ h => h) (Or.inl ⟨by rfl, ?_⟩) ?_ ?_
                    rotate_left
                    · intro w'
                      go_simp
                      with_reducible rfl
                    rotate_left
                    · simp only [Act.put, List.setIfInBounds_toArray, List.set_cons_zero, List.set_cons_succ, i64_w, i32_w]
                      rfl
                    refine pure_ (i := 3) (N := some 19) (v := ?_) (a' := ?_) #[true, true, true, true, false, false, false, false, false, false, false, false, false, false, false, false, false, false, false, false, false, false, false, false, false, false, false, false, false, false, false, false, false, false, false, false, false, false, false] rfl rfl (any_of HT_.out (by kernel_rfl)) (fun _ _ _ h => h) (Or.inl ⟨by rfl, ?_⟩) ?_ ?_
                    rotate_left
                    · intro w'
                      go_simp
                      with_reducible rfl
                    rotate_left
                    · simp only [Act.put, List.setIfInBounds_toArray, List.set_cons_zero, List.set_cons_succ, i64_w, i32_w]
                      rfl
                    refine pure_ (i := 5) (N := some 21) (v := ?_) (a' := ?_) #[true, true, true, true, false, true, false, false, false, false, false, false, false, false, false, false, false, false, false, false, false, false, false, false, false, false, false, false, false, false, false, false, false, false, false, false, false, false, false] rfl rfl (any_of HT_.out (by kernel_rfl)) (fun _ _ _ h => h) (Or.inl ⟨by rfl, ?_⟩) ?_ ?_
                    rotate_left
                    · intro w'
                      go_simp
                      with_reducible rfl
                    rotate_left
                    · simp only [Act.put, List.setIfInBounds_toArray, List.set_cons_zero, List.set_cons_succ, i64_w, i32_w]
                      rfl
                    refine one_ (i := 4) (N := some 20) #[true, true, true, true, true, true, false, false, false, false, false, false, false, false, false, false, false, false, false, false, false, false, false, false, false, false, false, false, false, false, false, false, false, false, false, false, false, false, false] rfl rfl (one_of HT_.out (by kernel_rfl)) (by decide) (fun K hK => ?_)
                    refine goes_ Try.func7 (by kernel_rfl) rfl #[.slice (some ad138) y126.length co26] (by rfl) rfl rfl (by (try simp only [List.map_toArray, List.map_cons, List.map_nil]); first | done | rfl | (simp only [List.length_drop, List.length_take]; rfl)) ?_
                    with_reducible refine (digest_Adler.calls _ _ y126 t130 _ ?side1 ?side2 A8.out).mono ?_
                    (case side1 => repeat (first | exact (by repeat (first | (with_reducible exact HR129.out) | (with_reducible refine Kd.C_alloc ?_ _) | (with_reducible refine Kd.C_drewN ?_ _) | (with_reducible refine Kd.C_drew ?_) | exact HR129.out)) | (with_reducible refine Kd.C_alloc ?_ _) | (with_reducible refine Kd.C_drewN ?_ _) | (with_reducible refine Kd.C_drew ?_)))
                    (case side2 => exact HC129.out)
                    rintro e w27 ⟨rfl, hb⟩
                    have HS0_ := hHeld.below hb
                    refine ⟨_, rfl, ?_⟩
                    have n0_ := Aside0.mk (Kd.R_below (by (with_reducible repeat (first | apply Kd.R_alloc | apply Kd.R_drewN | apply Kd.R_drew)); exact HO125.out) hb)
                    have n1_ := Aside0.mk (Kd.C_below (by repeat (first | (with_reducible exact HR129.out) | (with_reducible refine Kd.C_alloc ?_ _) | (with_reducible refine Kd.C_drewN ?_ _) | (with_reducible refine Kd.C_drew ?_) | exact HR129.out)) hb)
                    have n2_ := Aside0.mk (below_step (by repeat (first | (with_reducible first | exact HB.out | apply below_alloc | apply pw_below_drewN | apply below_drew1) | exact HB.out)) hb)
                    clear HO125
                    clear HR129
                    clear HB
                    have HO125 := n0_
                    have HR129 := n1_
                    have HB := n2_
                    clear n0_ n1_ n2_
                    (try clear hb)
                    (try clear hb2)
                    (try clear hk)
                    (try clear hi)
                    refine hK.out _ _ (HS0_) (fun hHeld => ?_)
                    clear hK K
                    refine norm_ (a' := ?_) ?_ ?_
                    rotate_left
                    · show Act.put _ (some 20) _ = _
                      simp only [Act.put, List.setIfInBounds_toArray, List.set_cons_zero, List.set_cons_succ, i64_w, i32_w]
                      rfl
                    refine one_ (i := 6) (N := some 22) #[true, true, true, true, true, true, true, false, false, false, false, false, false, false, false, false, false, false, false, false, false, false, false, false, false, false, false, false, false, false, false, false, false, false, false, false, false, false, false] rfl rfl (one_of HT_.out (by kernel_rfl)) (by decide) (fun K hK => ?_)
                    refine goes_ Try.func8 (by kernel_rfl) rfl #[.slice A0 l0.length c0] (by rfl) rfl rfl (by (try simp only [List.map_toArray, List.map_cons, List.map_nil]); first | done | rfl | (simp only [List.length_drop, List.length_take]; rfl)) ?_
                    with_reducible refine (thermographref04_Adler.calls _ _ l0 t131 _ ?side1 ?side2 A9.out).mono ?_
                    (case side1 => repeat (first | exact (Kd.C_below HR0.out HB.out) | (with_reducible refine Kd.C_alloc ?_ _) | (with_reducible refine Kd.C_drewN ?_ _) | (with_reducible refine Kd.C_drew ?_)))
                    (case side2 => exact HC0.out)
                    rintro e w' ⟨rfl, ⟨nd, rfl⟩⟩
                    refine ⟨_, rfl, ?_⟩
                    have q28 : ((l0.length : Int) : Int) ≤ ((y123.length : Int) : Int) := of_decide_eq_true (by first | (with_reducible assumption) | assumption)
                    obtain ⟨i028, hi028, _, hsz28, _⟩ := info_parts info5
                    have hroom28 : y123.length ≤ co26 := (Kd.R_reads' HO125.out).2.1
                    have hC28 : Kd.C (Kd.int .u8) _ (some ad138) y123.length y123 := (Kd.R_reads' HO125.out).2.2
                    try clear hcut25
                    have hcut28 := cut_to (P := Try.prog) 22 5 .i64 Try.underlying22 hi028 (some ad138) y123.length co26 (l0.length : Int) (of_decide_eq_true (by first | (with_reducible assumption) | assumption)) q28 hroom28
                    have hr28 := Kd.C_take (m := ((l0.length : Int) : Int).toNat) hC28 (by omega)
                    have hy28 : y132.length = ((l0.length : Int) : Int).toNat := (by rw [Ny132.out, List.length_take]; omega)
                    rw [← Ny132.out] at hr28
                    rw [← hy28] at hcut28
                    have HR135 := Aside0.mk hr28
                    have HC135 := Aside0.mk (show y132.length ≤ co26 from by omega)
                    clear hr28 hC28 hroom28 hi028 hsz28
                    have KY28 := Aside0.mk hy28
                    clear hy28
                    have KL28 := Aside0.mk (show ((l0.length : Int) : Int).toNat ≤ y123.length from by omega)
                    replace q28 := eq_true q28
                    refine hK.out _ _ (hHeld.drewN _) (fun hHeld => ?_)
                    clear hK K
                    refine norm_ (a' := ?_) ?_ ?_
                    rotate_left
                    · show Act.put _ (some 22) _ = _
                      simp only [Act.put, List.setIfInBounds_toArray, List.set_cons_zero, List.set_cons_succ, i64_w, i32_w]
                      rfl
                    refine pure_ (i := 7) (N := some 23) (v := ?_) (a' := ?_) #[true, true, true, true, true, true, true, true, false, false, false, false, false, false, false, false, false, false, false, false, false, false, false, false, false, false, false, false, false, false, false, false, false, false, false, false, false, false, false] rfl rfl (any_of HT_.out (by kernel_rfl)) (fun _ _ _ h => h) (Or.inl ⟨by rfl, ?_⟩) ?_ ?_
                    rotate_left
                    · intro w'
                      go_simp
                      with_reducible rfl
                    rotate_left
                    · simp only [Act.put, List.setIfInBounds_toArray, List.set_cons_zero, List.set_cons_succ, i64_w, i32_w]
                      rfl
                    refine pure_ (i := 8) (N := some 24) (v := ?_) (a' := ?_) #[true, true, true, true, true, true, true, true, true, false, false, false, false, false, false, false, false, false, false, false, false, false, false, false, false, false, false, false, false, false, false, false, false, false, false, false, false, false, false] rfl rfl (any_of HT_.out (by kernel_rfl)) (fun _ _ _ h => h) (Or.inl ⟨by rfl, ?_⟩) ?_ ?_
                    rotate_left
                    · intro w'
                      go_simp
                      with_reducible rfl
                    rotate_left
                    · simp only [Act.put, List.setIfInBounds_toArray, List.set_cons_zero, List.set_cons_succ, i64_w, i32_w]
                      rfl
                    refine pure_ (i := 9) (N := some 25) (v := ?_) (a' := ?_) #[true, true, true, true, true, true, true, true, true, true, false, false, false, false, false, false, false, false, false, false, false, false, false, false, false, false, false, false, false, false, false, false, false, false, false, false, false, false, false] rfl rfl (any_of HT_.out (by kernel_rfl)) (fun _ _ _ h => h) (Or.inl ⟨by rfl, ?_⟩) ?_ ?_
                    rotate_left
                    · intro w'
                      go_simp
                      with_reducible rfl
                    rotate_left
                    · simp only [Act.put, List.setIfInBounds_toArray, List.set_cons_zero, List.set_cons_succ, i64_w, i32_w]
                      rfl
                    refine pure_ (i := 10) (N := some 26) (v := ?_) (a' := ?_) #[true, true, true, true, true, true, true, true, true, true, true, false, false, false, false, false, false, false, false, false, false, false, false, false, false, false, false, false, false, false, false, false, false, false, false, false, false, false, false] rfl rfl (any_of HT_.out (by kernel_rfl)) (fun _ _ _ h => h) (Or.inl ⟨by rfl, ?_⟩) ?_ ?_
                    rotate_left
                    · intro w'
                      go_simp
                      with_reducible rfl
                    rotate_left
                    · simp only [Act.put, List.setIfInBounds_toArray, List.set_cons_zero, List.set_cons_succ, i64_w, i32_w]
                      rfl
                    refine pure_ (i := 11) (N := some 27) (v := ?_) (a' := ?_) #[true, true, true, true, true, true, true, true, true, true, true, true, false, false, false, false, false, false, false, false, false, false, false, false, false, false, false, false, false, false, false, false, false, false, false, false, false, false, false] rfl rfl (any_of HT_.out (by kernel_rfl)) (fun _ _ _ h => h) (Or.inl ⟨by rfl, ?_⟩) ?_ ?_
                    rotate_left
                    · intro w'
                      go_simp
                      with_reducible rfl
                    rotate_left
                    · simp only [Act.put, List.setIfInBounds_toArray, List.set_cons_zero, List.set_cons_succ, i64_w, i32_w]
                      rfl
                    refine pure_ (i := 12) (N := some 28) (v := ?_) (a' := ?_) #[true, true, true, true, true, true, true, true, true, true, true, true, true, false, false, false, false, false, false, false, false, false, false, false, false, false, false, false, false, false, false, false, false, false, false, false, false, false, false] rfl rfl (any_of HT_.out (by kernel_rfl)) (fun _ _ _ h => h) (Or.inl ⟨by rfl, ?_⟩) ?_ ?_
                    rotate_left
                    · intro w'
                      go_simp
                      with_reducible rfl
                    rotate_left
                    · simp only [Act.put, List.setIfInBounds_toArray, List.set_cons_zero, List.set_cons_succ, i64_w, i32_w]
                      rfl
                    refine pure_ (i := 13) (N := some 29) (v := ?_) (a' := ?_) #[true, true, true, true, true, true, true, true, true, true, true, true, true, true, false, false, false, false, false, false, false, false, false, false, false, false, false, false, false, false, false, false, false, false, false, false, false, false, false] rfl rfl (any_of HT_.out (by kernel_rfl)) (fun _ _ _ h => h) (Or.inl ⟨by rfl, ?_⟩) ?_ ?_
                    rotate_left
                    · intro w'
                      go_simp
                      with_reducible rfl
                    rotate_left
                    · simp only [Act.put, List.setIfInBounds_toArray, List.set_cons_zero, List.set_cons_succ, i64_w, i32_w]
                      rfl
                    refine pure_ (i := 15) (N := some 31) (v := ?_) (a' := ?_) #[true, true, true, true, true, true, true, true, true, true, true, true, true, true, false, true, false, false, false, false, false, false, false, false, false, false, false, false, false, false, false, false, false, false, false, false, false, false, false] rfl rfl (any_of HT_.out (by kernel_rfl)) (fun _ _ _ h => h) (Or.inl ⟨by rfl, ?_⟩) ?_ ?_
                    rotate_left
                    · intro w'
                      go_simp
                      with_reducible rfl
                    rotate_left
                    · simp only [Act.put, List.setIfInBounds_toArray, List.set_cons_zero, List.set_cons_succ, i64_w, i32_w]
                      rfl
                    refine pure_ (i := 16) (N := some 32) (v := ?_) (a' := ?_) #[true, true, true, true, true, true, true, true, true, true, true, true, true, true, false, true, true, false, false, false, false, false, false, false, false, false, false, false, false, false, false, false, false, false, false, false, false, false, false] rfl rfl (any_of HT_.out (by kernel_rfl)) (fun _ _ _ h => h) (Or.inl ⟨by rfl, ?_⟩) ?_ ?_
                    rotate_left
                    · intro w'
                      go_simp
                      with_reducible rfl
                    rotate_left
                    · simp only [Act.put, List.setIfInBounds_toArray, List.set_cons_zero, List.set_cons_succ, i64_w, i32_w]
                      rfl
                    refine one_ (i := 14) (N := some 30) #[true, true, true, true, true, true, true, true, true, true, true, true, true, true, true, true, true, false, false, false, false, false, false, false, false, false, false, false, false, false, false, false, false, false, false, false, false, false, false] rfl rfl (one_of HT_.out (by kernel_rfl)) (by decide) (fun K hK => ?_)
                    refine goes_ Try.func11 (by kernel_rfl) rfl #[.slice (some ad138) y132.length co26, .int .u32 a1] (by rfl) rfl rfl (by (try simp only [List.map_toArray, List.map_cons, List.map_nil]); first | done | rfl | (simp only [List.length_drop, List.length_take]; rfl)) ?_
                    with_reducible refine (digest_Murmur.calls _ _ y132 a1 t136 _ ?side1 ?side2 A13.out).mono ?_
                    (case side1 => repeat (first | exact (by repeat (first | (with_reducible exact HR135.out) | (with_reducible refine Kd.C_alloc ?_ _) | (with_reducible refine Kd.C_drewN ?_ _) | (with_reducible refine Kd.C_drew ?_) | exact HR135.out)) | (with_reducible refine Kd.C_alloc ?_ _) | (with_reducible refine Kd.C_drewN ?_ _) | (with_reducible refine Kd.C_drew ?_)))
                    (case side2 => exact HC135.out)
                    rintro e w29 ⟨rfl, hb⟩
                    have HS0_ := hHeld.below hb
                    refine ⟨_, rfl, ?_⟩
                    have n0_ := Aside0.mk (Kd.R_below (by (with_reducible repeat (first | apply Kd.R_alloc | apply Kd.R_drewN | apply Kd.R_drew)); exact HO125.out) hb)
                    have n1_ := Aside0.mk (Kd.C_below (by repeat (first | (with_reducible exact HR129.out) | (with_reducible refine Kd.C_alloc ?_ _) | (with_reducible refine Kd.C_drewN ?_ _) | (with_reducible refine Kd.C_drew ?_) | exact HR129.out)) hb)
                    have n2_ := Aside0.mk (Kd.C_below (by repeat (first | (with_reducible exact HR135.out) | (with_reducible refine Kd.C_alloc ?_ _) | (with_reducible refine Kd.C_drewN ?_ _) | (with_reducible refine Kd.C_drew ?_) | exact HR135.out)) hb)
                    have n3_ := Aside0.mk (below_step (by repeat (first | (with_reducible first | exact HB.out | apply below_alloc | apply pw_below_drewN | apply below_drew1) | exact HB.out)) hb)
                    clear HO125
                    clear HR129
                    clear HR135
                    clear HB
                    have HO125 := n0_
                    have HR129 := n1_
                    have HR135 := n2_
                    have HB := n3_
                    clear n0_ n1_ n2_ n3_
                    (try clear hb)
                    (try clear hb2)
                    (try clear hk)
                    (try clear hi)
                    refine hK.out _ _ (HS0_) (fun hHeld => ?_)
                    clear hK K
                    refine norm_ (a' := ?_) ?_ ?_
                    rotate_left
                    · show Act.put _ (some 30) _ = _
                      simp only [Act.put, List.setIfInBounds_toArray, List.set_cons_zero, List.set_cons_succ, i64_w, i32_w]
                      rfl
                    refine one_ (i := 17) (N := some 33) #[true, true, true, true, true, true, true, true, true, true, true, true, true, true, true, true, true, true, false, false, false, false, false, false, false, false, false, false, false, false, false, false, false, false, false, false, false, false, false] rfl rfl (one_of HT_.out (by kernel_rfl)) (by decide) (fun K hK => ?_)
                    refine goes_ Try.func12 (by kernel_rfl) rfl #[.slice A0 l0.length c0, .int .u32 a1] (by rfl) rfl rfl (by (try simp only [List.map_toArray, List.map_cons, List.map_nil]); first | done | rfl | (simp only [List.length_drop, List.length_take]; rfl)) ?_
                    with_reducible refine (thermographref04_Murmur.calls _ _ l0 a1 t137 _ ?side1 ?side2 A14.out).mono ?_
                    (case side1 => repeat (first | exact (Kd.C_below HR0.out HB.out) | (with_reducible refine Kd.C_alloc ?_ _) | (with_reducible refine Kd.C_drewN ?_ _) | (with_reducible refine Kd.C_drew ?_)))
                    (case side2 => exact HC0.out)
                    rintro e w' ⟨rfl, ⟨nd, rfl⟩⟩
                    refine ⟨_, rfl, ?_⟩
                    have q30 : ((l0.length : Int) : Int) ≤ ((y123.length : Int) : Int) := of_decide_eq_true (by first | (with_reducible assumption) | assumption)
                    obtain ⟨i030, hi030, _, hsz30, _⟩ := info_parts info5
                    have hroom30 : y123.length ≤ co26 := (Kd.R_reads' HO125.out).2.1
                    have hC30 : Kd.C (Kd.int .u8) _ (some ad138) y123.length y123 := (Kd.R_reads' HO125.out).2.2
                    try clear hcut28
                    have hcut30 := cut_to (P := Try.prog) 22 5 .i64 Try.underlying22 hi030 (some ad138) y123.length co26 (l0.length : Int) (of_decide_eq_true (by first | (with_reducible assumption) | assumption)) q30 hroom30
                    have hr30 := Kd.C_take (m := ((l0.length : Int) : Int).toNat) hC30 (by omega)
                    have hy30 : y139.length = ((l0.length : Int) : Int).toNat := (by rw [Ny139.out, List.length_take]; omega)
                    rw [← Ny139.out] at hr30
                    rw [← hy30] at hcut30
                    have HR142 := Aside0.mk hr30
                    have HC142 := Aside0.mk (show y139.length ≤ co26 from by omega)
                    clear hr30 hC30 hroom30 hi030 hsz30
                    have KY30 := Aside0.mk hy30
                    clear hy30
                    have KL30 := Aside0.mk (show ((l0.length : Int) : Int).toNat ≤ y123.length from by omega)
                    replace q30 := eq_true q30
                    have hcv31 := Kd.C_string (P := Try.prog) (A := (some ad138)) (c := co26) Try.underlying22 Try.underlying5 Try.underlying9 (by repeat (first | (with_reducible exact HR142.out) | (with_reducible refine Kd.C_alloc ?_ _) | (with_reducible refine Kd.C_drewN ?_ _) | (with_reducible refine Kd.C_drew ?_) | exact HR142.out))
                    have hcv32 := Kd.C_string (P := Try.prog) (A := A0) (c := c0) Try.underlying22 Try.underlying5 Try.underlying9 (Kd.C_below HR0.out HB.out)
                    refine hK.out _ _ (hHeld.drewN _) (fun hHeld => ?_)
                    clear hK K
                    refine norm_ (a' := ?_) ?_ ?_
                    rotate_left
                    · show Act.put _ (some 33) _ = _
                      simp only [Act.put, List.setIfInBounds_toArray, List.set_cons_zero, List.set_cons_succ, i64_w, i32_w]
                      rfl
                    refine pure_ (i := 18) (N := some 34) (v := ?_) (a' := ?_) #[true, true, true, true, true, true, true, true, true, true, true, true, true, true, true, true, true, true, true, false, false, false, false, false, false, false, false, false, false, false, false, false, false, false, false, false, false, false, false] rfl rfl (any_of HT_.out (by kernel_rfl)) (fun _ _ _ h => h) (Or.inl ⟨by rfl, ?_⟩) ?_ ?_
                    rotate_left
                    · intro w'
                      go_simp
                      with_reducible rfl
                    rotate_left
                    · simp only [Act.put, List.setIfInBounds_toArray, List.set_cons_zero, List.set_cons_succ, i64_w, i32_w]
                      rfl
                    refine pure_ (i := 19) (N := some 35) (v := ?_) (a' := ?_) #[true, true, true, true, true, true, true, true, true, true, true, true, true, true, true, true, true, true, true, true, false, false, false, false, false, false, false, false, false, false, false, false, false, false, false, false, false, false, false] rfl rfl (any_of HT_.out (by kernel_rfl)) (fun _ _ _ h => h) (Or.inl ⟨by rfl, ?_⟩) ?_ ?_
                    rotate_left
                    · intro w'
                      go_simp
                      with_reducible rfl
                    rotate_left
                    · simp only [Act.put, List.setIfInBounds_toArray, List.set_cons_zero, List.set_cons_succ, i64_w, i32_w]
                      rfl
                    refine pure_ (i := 20) (N := some 36) (v := ?_) (a' := ?_) #[true, true, true, true, true, true, true, true, true, true, true, true, true, true, true, true, true, true, true, true, true, false, false, false, false, false, false, false, false, false, false, false, false, false, false, false, false, false, false] rfl rfl (any_of HT_.out (by kernel_rfl)) (fun _ _ _ h => h) (Or.inl ⟨by rfl, ?_⟩) ?_ ?_
                    rotate_left
                    · intro w'
                      go_simp
                      with_reducible rfl
                    rotate_left
                    · simp only [Act.put, List.setIfInBounds_toArray, List.set_cons_zero, List.set_cons_succ, i64_w, i32_w]
                      rfl
                    refine pure_ (i := 21) (N := some 37) (v := ?_) (a' := ?_) #[true, true, true, true, true, true, true, true, true, true, true, true, true, true, true, true, true, true, true, true, true, true, false, false, false, false, false, false, false, false, false, false, false, false, false, false, false, false, false] rfl rfl (any_of HT_.out (by kernel_rfl)) (fun _ _ _ h => h) (Or.inl ⟨by rfl, ?_⟩) ?_ ?_
                    rotate_left
                    · intro w'
                      go_simp
                      with_reducible rfl
                    rotate_left
                    · simp only [Act.put, List.setIfInBounds_toArray, List.set_cons_zero, List.set_cons_succ, i64_w, i32_w]
                      rfl
                    refine pure_ (i := 22) (N := some 38) (v := ?_) (a' := ?_) #[true, true, true, true, true, true, true, true, true, true, true, true, true, true, true, true, true, true, true, true, true, true, true, false, false, false, false, false, false, false, false, false, false, false, false, false, false, false, false] rfl rfl (any_of HT_.out (by kernel_rfl)) (fun _ _ _ h => h) (Or.inl ⟨by rfl, ?_⟩) ?_ ?_
                    rotate_left
                    · intro w'
                      go_simp
                      with_reducible rfl
                    rotate_left
                    · simp only [Act.put, List.setIfInBounds_toArray, List.set_cons_zero, List.set_cons_succ, i64_w, i32_w]
                      rfl
                    refine pure_ (i := 23) (N := some 39) (v := ?_) (a' := ?_) #[true, true, true, true, true, true, true, true, true, true, true, true, true, true, true, true, true, true, true, true, true, true, true, true, false, false, false, false, false, false, false, false, false, false, false, false, false, false, false] rfl rfl (any_of HT_.out (by kernel_rfl)) (fun _ _ _ h => h) (Or.inl ⟨by rfl, ?_⟩) ?_ ?_
                    rotate_left
                    · intro w'
                      go_simp
                      with_reducible rfl
                    rotate_left
                    · simp only [Act.put, List.setIfInBounds_toArray, List.set_cons_zero, List.set_cons_succ, i64_w, i32_w]
                      rfl
                    refine pure_ (i := 24) (N := some 40) (v := ?_) (a' := ?_) #[true, true, true, true, true, true, true, true, true, true, true, true, true, true, true, true, true, true, true, true, true, true, true, true, true, false, false, false, false, false, false, false, false, false, false, false, false, false, false] rfl rfl (any_of HT_.out (by kernel_rfl)) (fun _ _ _ h => h) (Or.inl ⟨by rfl, ?_⟩) ?_ ?_
                    rotate_left
                    · intro w'
                      go_simp
                      with_reducible rfl
                    rotate_left
                    · simp only [Act.put, List.setIfInBounds_toArray, List.set_cons_zero, List.set_cons_succ, i64_w, i32_w]
                      rfl
                    refine take_ (i := 25) (N := some 41) (v := ?_) (a' := ?_) #[true, true, true, true, true, true, true, true, true, true, true, true, true, true, true, true, true, true, true, true, true, true, true, true, true, true, false, false, false, false, false, false, false, false, false, false, false, false, false] rfl rfl (take_ofW HT_.out HW_.out (by kernel_rfl)) (fun _ _ _ h => h) (Or.inl ⟨by rfl, ?_⟩) hHeld ?_ ?_
                    rotate_left
                    · intro w' s0; have s0 := s0.cell
                      (try simp only [Int.toNat_natCast] at s0)
                      go_simp
                      with_reducible rfl
                    rotate_left
                    · simp only [Act.put, List.setIfInBounds_toArray, List.set_cons_zero, List.set_cons_succ, i64_w, i32_w]
                      rfl
                    refine pure_ (i := 26) (N := some 42) (v := ?_) (a' := ?_) #[true, true, true, true, true, true, true, true, true, true, true, true, true, true, true, true, true, true, true, true, true, true, true, true, true, true, true, false, false, false, false, false, false, false, false, false, false, false, false] rfl rfl (any_of HT_.out (by kernel_rfl)) (fun _ _ _ h => h) (Or.inl ⟨by rfl, ?_⟩) ?_ ?_
                    rotate_left
                    · intro w'
                      go_simp
                      with_reducible rfl
                    rotate_left
                    · simp only [Act.put, List.setIfInBounds_toArray, List.set_cons_zero, List.set_cons_succ, i64_w, i32_w]
                      rfl
                    refine pure_ (i := 27) (N := some 43) (v := ?_) (a' := ?_) #[true, true, true, true, true, true, true, true, true, true, true, true, true, true, true, true, true, true, true, true, true, true, true, true, true, true, true, true, false, false, false, false, false, false, false, false, false, false, false] rfl rfl (any_of HT_.out (by kernel_rfl)) (fun _ _ _ h => h) (Or.inl ⟨by rfl, ?_⟩) ?_ ?_
                    rotate_left
                    · intro w'
                      go_simp
                      with_reducible rfl
                    rotate_left
                    · simp only [Act.put, List.setIfInBounds_toArray, List.set_cons_zero, List.set_cons_succ, i64_w, i32_w]
                      rfl
                    refine pure_ (i := 28) (N := some 44) (v := ?_) (a' := ?_) #[true, true, true, true, true, true, true, true, true, true, true, true, true, true, true, true, true, true, true, true, true, true, true, true, true, true, true, true, true, false, false, false, false, false, false, false, false, false, false] rfl rfl (any_of HT_.out (by kernel_rfl)) (fun _ _ _ h => h) (Or.inl ⟨by rfl, ?_⟩) ?_ ?_
                    rotate_left
                    · intro w'
                      go_simp
                      with_reducible rfl
                    rotate_left
                    · simp only [Act.put, List.setIfInBounds_toArray, List.set_cons_zero, List.set_cons_succ, i64_w, i32_w]
                      rfl
                    refine pure_ (i := 29) (N := some 45) (v := ?_) (a' := ?_) #[true, true, true, true, true, true, true, true, true, true, true, true, true, true, true, true, true, true, true, true, true, true, true, true, true, true, true, true, true, true, false, false, false, false, false, false, false, false, false] rfl rfl (any_of HT_.out (by kernel_rfl)) (fun _ _ _ h => h) (Or.inl ⟨by rfl, ?_⟩) ?_ ?_
                    rotate_left
                    · intro w'
                      go_simp
                      with_reducible rfl
                    rotate_left
                    · simp only [Act.put, List.setIfInBounds_toArray, List.set_cons_zero, List.set_cons_succ, i64_w, i32_w]
                      rfl
                    refine pure_ (i := 30) (N := some 46) (v := ?_) (a' := ?_) #[true, true, true, true, true, true, true, true, true, true, true, true, true, true, true, true, true, true, true, true, true, true, true, true, true, true, true, true, true, true, true, false, false, false, false, false, false, false, false] rfl rfl (any_of HT_.out (by kernel_rfl)) (fun _ _ _ h => h) (Or.inl ⟨by rfl, ?_⟩) ?_ ?_
                    rotate_left
                    · intro w'
                      go_simp
                      with_reducible rfl
                    rotate_left
                    · simp only [Act.put, List.setIfInBounds_toArray, List.set_cons_zero, List.set_cons_succ, i64_w, i32_w]
                      rfl
                    refine pure_ (i := 31) (N := some 47) (v := ?_) (a' := ?_) #[true, true, true, true, true, true, true, true, true, true, true, true, true, true, true, true, true, true, true, true, true, true, true, true, true, true, true, true, true, true, true, true, false, false, false, false, false, false, false] rfl rfl (any_of HT_.out (by kernel_rfl)) (fun _ _ _ h => h) (Or.inl ⟨by rfl, ?_⟩) ?_ ?_
                    rotate_left
                    · intro w'
                      go_simp
                      with_reducible rfl
                    rotate_left
                    · simp only [Act.put, List.setIfInBounds_toArray, List.set_cons_zero, List.set_cons_succ, i64_w, i32_w]
                      rfl
                    refine pure_ (i := 32) (N := some 48) (v := ?_) (a' := ?_) #[true, true, true, true, true, true, true, true, true, true, true, true, true, true, true, true, true, true, true, true, true, true, true, true, true, true, true, true, true, true, true, true, true, false, false, false, false, false, false] rfl rfl (any_of HT_.out (by kernel_rfl)) (fun _ _ _ h => h) (Or.inl ⟨by rfl, ?_⟩) ?_ ?_
                    rotate_left
                    · intro w'
                      go_simp
                      with_reducible rfl
                    rotate_left
                    · simp only [Act.put, List.setIfInBounds_toArray, List.set_cons_zero, List.set_cons_succ, i64_w, i32_w]
                      rfl
                    refine take_ (i := 33) (N := some 49) (v := ?_) (a' := ?_) #[true, true, true, true, true, true, true, true, true, true, true, true, true, true, true, true, true, true, true, true, true, true, true, true, true, true, true, true, true, true, true, true, true, true, false, false, false, false, false] rfl rfl (take_ofW HT_.out HW_.out (by kernel_rfl)) (fun _ _ _ h => h) (Or.inl ⟨by rfl, ?_⟩) hHeld ?_ ?_
                    rotate_left
                    · intro w' s0; have s1 := s0.conv1 co26; clear s0
                      go_simp
                      with_reducible rfl
                    rotate_left
                    · simp only [Act.put, List.setIfInBounds_toArray, List.set_cons_zero, List.set_cons_succ, i64_w, i32_w]
                      rfl
                    refine pure_ (i := 34) (N := some 50) (v := ?_) (a' := ?_) #[true, true, true, true, true, true, true, true, true, true, true, true, true, true, true, true, true, true, true, true, true, true, true, true, true, true, true, true, true, true, true, true, true, true, true, false, false, false, false] rfl rfl (any_of HT_.out (by kernel_rfl)) (fun _ _ _ h => h) (Or.inl ⟨by rfl, ?_⟩) ?_ ?_
                    rotate_left
                    · intro w'
                      go_simp
                      with_reducible rfl
                    rotate_left
                    · simp only [Act.put, List.setIfInBounds_toArray, List.set_cons_zero, List.set_cons_succ, i64_w, i32_w]
                      rfl
                    refine take_ (i := 35) (N := some 51) (v := ?_) (a' := ?_) #[true, true, true, true, true, true, true, true, true, true, true, true, true, true, true, true, true, true, true, true, true, true, true, true, true, true, true, true, true, true, true, true, true, true, true, true, false, false, false] rfl rfl (take_ofW HT_.out HW_.out (by kernel_rfl)) (fun _ _ _ h => h) (Or.inl ⟨by rfl, ?_⟩) hHeld ?_ ?_
                    rotate_left
                    · intro w' s0; have s1 := s0.conv2 c0; clear s0
                      go_simp
                      with_reducible rfl
                    rotate_left
                    · simp only [Act.put, List.setIfInBounds_toArray, List.set_cons_zero, List.set_cons_succ, i64_w, i32_w]
                      rfl
                    refine pure_ (i := 36) (N := some 52) (v := ?_) (a' := ?_) #[true, true, true, true, true, true, true, true, true, true, true, true, true, true, true, true, true, true, true, true, true, true, true, true, true, true, true, true, true, true, true, true, true, true, true, true, true, false, false] rfl rfl (any_of HT_.out (by kernel_rfl)) (fun _ _ _ h => h) (Or.inl ⟨by rfl, ?_⟩) ?_ ?_
                    rotate_left
                    · intro w'
                      go_simp
                      with_reducible rfl
                    rotate_left
                    · simp only [Act.put, List.setIfInBounds_toArray, List.set_cons_zero, List.set_cons_succ, i64_w, i32_w]
                      rfl
                    refine pure_ (i := 37) (N := some 53) (v := ?_) (a' := ?_) #[true, true, true, true, true, true, true, true, true, true, true, true, true, true, true, true, true, true, true, true, true, true, true, true, true, true, true, true, true, true, true, true, true, true, true, true, true, true, false] rfl rfl (any_of HT_.out (by kernel_rfl)) (fun _ _ _ h => h) (Or.inl ⟨by rfl, ?_⟩) ?_ ?_
                    rotate_left
                    · intro w'
                      go_simp
                      with_reducible rfl
                    rotate_left
                    · simp only [Act.put, List.setIfInBounds_toArray, List.set_cons_zero, List.set_cons_succ, i64_w, i32_w]
                      rfl
                    refine pure_ (i := 38) (N := some 4) (v := ?_) (a' := ?_) #[true, true, true, true, true, true, true, true, true, true, true, true, true, true, true, true, true, true, true, true, true, true, true, true, true, true, true, true, true, true, true, true, true, true, true, true, true, true, true] rfl rfl (any_of HT_.out (by kernel_rfl)) (fun _ _ _ h => h) (Or.inl ⟨by rfl, ?_⟩) ?_ ?_
                    rotate_left
                    · intro w'
                      go_simp
                      with_reducible rfl
                    rotate_left
                    · simp only [Act.put, List.setIfInBounds_toArray, List.set_cons_zero, List.set_cons_succ, i64_w, i32_w]
                      rfl
                    refine done_ (done_of HT_.out (by kernel_rfl)) ?_
                    try go_wp2
                    go_ret
                    exact ⟨by first | rfl | (simp [errW_none, errW_some] <;> rfl) | (simp [*, errW_none, errW_some] <;> rfl), by repeat (first | (with_reducible first | exact HB.out | apply below_alloc | apply pw_below_drewN | apply below_drew1) | exact HB.out)⟩
                  · exact absurd (show rd y123 (l0.length : Int) = 77 by rw [Ny123.out, Ny120.out, Ny117.out]; simp [rd]) c17
                · rw [if_neg c16] at H
                  exact absurd H (by simp)
              · have ey : y132 = l0 := by rw [Ny132.out, Ny123.out, Ny120.out, Ny117.out]; simp
                exact absurd (Option.some.inj (A13.out.symm.trans ((congrArg (fun z => digest_Murmur.f z a1) ey).trans (show digest_Murmur.f l0 a1 = some t137 from A14.out)))) c15
            · have ey : y126 = l0 := by rw [Ny126.out, Ny123.out, Ny120.out, Ny117.out]; simp
              exact absurd (Option.some.inj (A8.out.symm.trans ((congrArg (fun z => digest_Adler.f z) ey).trans (show digest_Adler.f l0 = some t131 from A9.out)))) c10
          · rw [if_neg c7] at H
            exact absurd H (by simp)
        · rw [if_neg c6] at H
          exact absurd H (by simp)
      · rw [if_neg c5] at H
        exact absurd H (by simp)
    · rw [if_neg c4] at H
      exact absurd H (by simp)

/-- THE ONE PURE STATEMENT of thermographlaw04_DigestSums: yours. -/
def thermographlaw04_DigestSums.Pure : Prop := ∀ (l0 : List Int) (a1 : Int), l0.length ≤ maxLen → l0.length * 1 ≤ 140737488351232 → (∀ x ∈ l0, (Lit.int .u8 x).wf = true) → (Lit.int .u32 a1).wf = true → thermographlaw04_DigestSums.f l0 a1 = some true
theorem thermographlaw04_DigestSums.walk (P : thermographlaw04_DigestSums.Pure) (a0 : Option Addr) (len0 cap0 : Nat) (z0 : List Int) (a1 : Int) (w : World) (w0 : (a0 = none ∧ len0 = 0 ∧ cap0 = 0 ∧ z0 = []) ∨ ∃ x, a0 = some x ∧ len0 ≤ cap0 ∧ cap0 ≤ maxLen ∧ z0.length = cap0 ∧ (∀ i, i < z0.length → w.cell? (x.add i) = some (.int .u8 (z0.getD i 0))) ∧ ∀ n ∈ z0, (Lit.int .u8 n).wf = true) (y0 : len0 * 1 ≤ 140737488351232) (w1 : (Lit.int .u32 a1).wf = true) :
    Calls Try.prog 6 #[.slice a0 len0 cap0, .int .u32 a1] w fun e w' => e = .returned (.bool true) ∧ Below w.heap.size w w' := by
  obtain ⟨l0, rfl, hr0, hm0, hw0, hc0⟩ := ReadsInt.ofRowC w0
  have h := P l0 a1 hm0 y0 hw0 w1
  refine (thermographlaw04_DigestSums.calls _ _ l0 a1 true w (Kd.C_of_reads (d := (0 : Int)) (h1 := fun _ => rfl) hr0) hc0 h).mono ?_
  rintro e w' ⟨rfl, hd⟩
  exact ⟨rfl, hd⟩

end Go.Proofs.Ytcppajpkllfpmaa.G
