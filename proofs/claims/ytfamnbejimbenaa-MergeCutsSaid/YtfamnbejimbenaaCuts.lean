/- The law MergeCuts, walked. -/
import Derived.Test.YtfamnbejimbenaaAgain
import Derived.Test.YtfamnbejimbenaaOpen
namespace Go.Proofs.Ytfamnbejimbenaa.X
open Go.RowKit Go.Proofs.Ytfamnbejimbenaa.G Go.Proofs.YtfamnbejimbenaaW.PrintWords Go.Proofs.YtfamnbejimbenaaW.PrintLast Go.Proofs.YtfamnbejimbenaaW.PrintMore

theorem cut_at (A0 : Option Addr) (c0 : Nat) (l : List S24) (a b : Int) (w : World) (hC : Kd.C k24 w A0 l.length l) (hc : l.length ≤ c0) (h1 : l.length ≤ 1000000) :
    Calls Try.prog 20 #[.slice A0 l.length c0, .agg #[.int .i64 a, .int .i64 b]] w fun e w' => ∃ A c, e = .returned (.slice A (l.filter (inR a b)).length c) ∧ (l.filter (inR a b)).length ≤ c ∧ Kd.C k24 w' A (l.filter (inR a b)).length (l.filter (inR a b)) ∧ Below w.heap.size w w' := by
  refine (merge_Cut.calls 1000001 A0 c0 l a b _ w hC hc (mcut_is 1000001 l a b (by omega) (by omega))).mono ?_
  rintro e w' ⟨v, rfl, hv, hb⟩
  obtain ⟨A, c, rfl, hle, hR⟩ := Kd.R_reads hv
  exact ⟨A, c, rfl, hle, hR, hb⟩
theorem rmerge_at {n : Nat} (A0 : Option Addr) (c0 : Nat) (L : List (List S24)) (w : World) (hn : L.length = n) (hC : Kd.C (Kd.slice 24 k24) w A0 L.length L) (hc : n ≤ c0) (h1 : L.length ≤ 1000000) (h2 : L.flatten.length ≤ 1000000) :
    Calls Try.prog 15 #[.slice A0 n c0] w fun e w' => ∃ A c, e = .returned (.slice A (view L.flatten).length c) ∧ (view L.flatten).length ≤ c ∧ Kd.C k24 w' A (view L.flatten).length (view L.flatten) ∧ Below w.heap.size w w' := by
  subst hn
  refine (thermographref06_Merge.calls 7000000 A0 c0 L _ w hC hc (rmerge_is 7000000 L h1 h2 (by omega))).mono ?_
  rintro e w' ⟨v, rfl, hv, hb⟩
  obtain ⟨A, c, rfl, hle, hR⟩ := Kd.R_reads hv
  exact ⟨A, c, rfl, hle, hR, hb⟩
/-- The greatest time. -/
def top (x : S24) : Bool := x.f0 == 9223372036854775807
def lowP (at_ : Int) (x : S24) : Bool := inR (-9223372036854775808) at_ x
def highP (at_ : Int) (x : S24) : Bool := inR at_ 9223372036854775807 x
theorem parts_count (l : List S24) (at_ : Int) (hw : ∀ x ∈ l, -9223372036854775808 ≤ x.f0 ∧ x.f0 ≤ 9223372036854775807) :
    l.length ≤ (l.filter (lowP at_)).length + (l.filter (highP at_)).length + (l.filter top).length ∧ ((l.filter top).length = 0 → (l.filter (lowP at_)).length + (l.filter (highP at_)).length = l.length) := by
  induction l with
  | nil => simp
  | cons x l ih =>
    have hx := hw x List.mem_cons_self
    obtain ⟨i1, i2⟩ := ih fun y hy => hw y (List.mem_cons_of_mem _ hy)
    have e1 : lowP at_ x = decide (x.f0 < at_) := by simp [lowP, inR, hx.1]
    have e2 : highP at_ x = (decide (at_ ≤ x.f0) && decide (x.f0 < 9223372036854775807)) := rfl
    have e3 : top x = decide (x.f0 = 9223372036854775807) := by
      unfold top
      by_cases h : x.f0 = 9223372036854775807
      · rw [h]; rfl
      · rw [decide_eq_false h]; exact beq_eq_false_iff_ne.2 h
    simp only [List.filter_cons, e1, e2, e3]
    by_cases h1 : x.f0 < at_
    · rw [decide_eq_true h1, decide_eq_false (show ¬ at_ ≤ x.f0 by omega)]
      by_cases h3 : x.f0 = 9223372036854775807
      · rw [decide_eq_true h3]
        simp only [Bool.false_and, if_true, Bool.false_eq_true, if_false, List.length_cons]
        omega
      · rw [decide_eq_false h3]
        simp only [Bool.false_and, if_true, Bool.false_eq_true, if_false, List.length_cons]
        omega
    · rw [decide_eq_false h1, decide_eq_true (show at_ ≤ x.f0 by omega)]
      by_cases h3 : x.f0 = 9223372036854775807
      · rw [decide_eq_true h3, decide_eq_false (show ¬ x.f0 < 9223372036854775807 by omega)]
        simp only [Bool.and_false, if_true, Bool.false_eq_true, if_false, List.length_cons]
        omega
      · rw [decide_eq_false h3, decide_eq_true (show x.f0 < 9223372036854775807 by omega)]
        simp only [Bool.and_true, if_true, Bool.false_eq_true, if_false, List.length_cons]
        omega
theorem parts_view (l : List S24) (at_ : Int) (hw : ∀ x ∈ l, -9223372036854775808 ≤ x.f0 ∧ x.f0 ≤ 9223372036854775807) (h0 : (l.filter top).length = 0) : view (l.filter (lowP at_) ++ l.filter (highP at_)) = view l := by
  refine view_congr fun p => ?_
  rw [List.mem_append, List.mem_filter, List.mem_filter]
  constructor
  · rintro (h | h) <;> exact h.1
  · intro hp
    have hx := hw p hp
    have hne : p.f0 ≠ 9223372036854775807 := fun e => by
      have : p ∈ l.filter top := List.mem_filter.2 ⟨hp, by simp [top, e]⟩
      rw [List.eq_nil_of_length_eq_zero h0] at this
      cases this
    by_cases h1 : p.f0 < at_
    · exact .inl ⟨hp, by simp [lowP, inR, h1, hx.1]⟩
    · exact .inr ⟨hp, by simp [highP, inR]; omega⟩
set_option maxHeartbeats 2000000 in
theorem cuts_calls (A0 : Option Addr) (c0 : Nat) (l : List S24) (at_ : Int) (w : World) (hC : Kd.C k24 w A0 l.length l) (hc : l.length ≤ c0) (hw : ∀ x ∈ l, -9223372036854775808 ≤ x.f0 ∧ x.f0 ≤ 9223372036854775807) :
    Calls Try.prog 9 #[.slice A0 l.length c0, .int .i64 at_] w fun e w' => e = .returned (.bool true) ∧ Below w.heap.size w w' := by
  by_cases hl : (l.length : Int) > 4096
  · have t1 : decide (4096 < (l.length : Int)) = true := decide_eq_true hl
    have t2 : decide (4096 < l.length) = true := decide_eq_true (by omega)
    go_enter Try.func9, Try.ntmps9
    go_wp2
    go_ret
    exact ⟨rfl, Below.refl _ _⟩
  · have t1 : decide (4096 < (l.length : Int)) = false := decide_eq_false hl
    have t2 : decide (4096 < l.length) = false := decide_eq_false (by omega)
    have hle : (l.length : Int) ≤ 4096 := by omega
    have hle2 : l.length ≤ 4096 := by omega
    have hpc := parts_count l at_ hw
    have HV := Aside0.mk (parts_view l at_ hw)
    have hf1 := List.length_filter_le (lowP at_) l
    have hf2 := List.length_filter_le (highP at_) l
    have HC := Aside0.mk hC
    have HQ1 := Aside0.mk (fun w hC => cut_at A0 c0 l (-9223372036854775808) at_ w hC hc (by omega))
    have HQ2 := Aside0.mk (fun w hC => cut_at A0 c0 l at_ 9223372036854775807 w hC hc (by omega))
    change Aside0 (∀ w, Kd.C k24 w A0 l.length l → Calls Try.prog 20 _ w fun e w' => ∃ A c, e = .returned (.slice A (l.filter (lowP at_)).length c) ∧ (l.filter (lowP at_)).length ≤ c ∧ Kd.C k24 w' A (l.filter (lowP at_)).length (l.filter (lowP at_)) ∧ Below w.heap.size w w') at HQ1
    change Aside0 (∀ w, Kd.C k24 w A0 l.length l → Calls Try.prog 20 _ w fun e w' => ∃ A c, e = .returned (.slice A (l.filter (highP at_)).length c) ∧ (l.filter (highP at_)).length ≤ c ∧ Kd.C k24 w' A (l.filter (highP at_)).length (l.filter (highP at_)) ∧ Below w.heap.size w w') at HQ2
    generalize l.filter (lowP at_) = a at *
    generalize l.filter (highP at_) = b at *
    have HPC := Aside0.mk hpc
    clear hC hl hw hpc
    go_enter Try.func9, Try.ntmps9
    go_wp2_with fail
    refine (HQ1.out _ HC.out).mono ?_
    rintro e w1 ⟨A1, c1, rfl, hle1, hC1, hb1⟩
    have HC1 := Aside0.mk hC1
    have HB1 := Aside0.mk hb1
    clear hC1 hb1 HQ1
    go_wp2_with fail
    refine (HQ2.out _ (Kd.C_below HC.out HB1.out)).mono ?_
    rintro e w2 ⟨A2, c2, rfl, hle2', hC2, hb2⟩
    have HC2 := Aside0.mk hC2
    have HB2 := Aside0.mk hb2
    clear hC2 hb2 HQ2
    go_wp2_with fail
    have HY := Aside0.mk (heap_alloc_new w2 (.cells #[.slice A1 a.length c1, .slice A2 b.length c2] 29))
    have HB3 := Aside0.mk (below_alloc (Below.refl w2.heap.size w2) (.cells #[.slice A1 a.length c1, .slice A2 b.length c2] 29))
    generalize w2.alloc (.cells #[.slice A1 a.length c1, .slice A2 b.length c2] 29) = w3 at HY HB3 ⊢
    have HC3 := Aside0.mk (Kd.C_below HC.out (below_step HB1.out (below_step HB2.out HB3.out)))
    clear t1 t2
    go_loop [8, 9] (fun v8 v9 => ∃ m i : Nat, v8 = .int .i64 m ∧ v9 = .int .i64 i ∧ i ≤ l.length ∧ m ≤ i ∧ Aside0 (m = ((l.take i).filter top).length)) (fun _ v9 => l.length - (intOf v9).toNat)
    case atStart => exact ⟨0, 0, rfl, rfl, Nat.zero_le _, Nat.zero_le _, ⟨by simp⟩⟩
    case round =>
      obtain ⟨m, i, rfl, rfl, hi, hm, HM⟩ := hrel
      by_cases hlt : i < l.length
      · have t1 : decide ((i : Int) < (l.length : Int)) = true := decide_eq_true (by omega)
        have t2 : decide (i < l.length) = true := decide_eq_true hlt
        obtain ⟨ad, x, rfl, hx, d0, d1, d2⟩ := at_nat HC3.out i hlt
        by_cases htop : x.f0 = 9223372036854775807
        · have HM2 := Aside0.mk (show m + 1 = ((l.take (i + 1)).filter top).length by
            rw [take_filter top hx, List.length_append, ← HM.out, show top x = true by simp [top, htop]]; rfl)
          have t3 : (x.f0 == 9223372036854775807) = true := by rw [htop]; rfl
          clear hx htop HM
          go_wp2
          go_round
          case rel => exact ⟨m + 1, i + 1, by go_num, by go_num, by omega, by omega, HM2⟩
          case measure => simp [intOf]; omega
        · have t3 : (x.f0 == 9223372036854775807) = false := beq_eq_false_iff_ne.2 htop
          have HM2 := Aside0.mk (show m = ((l.take (i + 1)).filter top).length by
            rw [take_filter top hx, List.length_append, ← HM.out, show top x = false from t3]; rfl)
          clear hx htop HM
          go_wp2
          go_round
          case rel => exact ⟨m, i + 1, rfl, by go_num, by omega, by omega, HM2⟩
          case measure => simp [intOf]; omega
      · have t1 : decide ((i : Int) < (l.length : Int)) = false := decide_eq_false (by omega)
        have t2 : decide (i < l.length) = false := decide_eq_false hlt
        have hmm := HM.out
        rw [List.take_of_length_le (by omega)] at hmm
        have hpc := HPC.out
        rw [← hmm] at hpc
        rcases Nat.eq_zero_or_pos m with h0 | h0
        · have hsum := hpc.2 h0
          have HVV := Aside0.mk (HV.out (by omega))
          obtain rfl := h0
          have hs1 : (a.length : Int) + (b.length : Int) = (l.length : Int) := by omega
          have t3 : ((a.length : Int) + (b.length : Int) == (l.length : Int)) = true := by rw [hs1]; simp
          have HSUM := Aside0.mk hsum
          clear hmm hpc hsum hs1 HM hlt hi hm
          go_wp2_with fail
          have HO := Aside0.mk (heap_alloc_new w3 (.cells #[.slice A0 l.length c0] 29))
          have HB4 := Aside0.mk (below_alloc (Below.refl w3.heap.size w3) (.cells #[.slice A0 l.length c0] 29))
          generalize w3.alloc (.cells #[.slice A0 l.length c0] 29) = w4 at HO HB4 ⊢
          have HY4 := Aside0.mk (blk_below HY.out HB4.out)
          have HT := Aside0.mk (show Kd.C (Kd.slice 24 k24) w4 (some ⟨w2.heap.size, 0, none⟩) [a, b].length [a, b] from C_lit HY4.out [a, b] (by simp) (fun j xs hj => by
            match j, hj with
            | 0, hj => obtain rfl := Option.some.inj hj; exact ⟨A1, c1, rfl, hle1, Kd.C_below HC1.out (below_step HB2.out (below_step HB3.out HB4.out))⟩
            | 1, hj => obtain rfl := Option.some.inj hj; exact ⟨A2, c2, rfl, hle2', Kd.C_below HC2.out (below_step HB3.out HB4.out)⟩
            | j + 2, hj => simp at hj))
          refine (merge_at _ _ [a, b] _ rfl HT.out (Nat.le_refl _) (by simp) (by simp; omega)).mono ?_
          rintro e w5 ⟨A5, c5, rfl, hle5, hC5, hb5⟩
          simp only [List.flatten_cons, List.flatten_nil, List.append_nil] at hle5 hC5 ⊢
          rw [HVV.out] at hle5 hC5 ⊢
          have HC5 := Aside0.mk hC5
          have HB5 := Aside0.mk (below_step HB4.out hb5)
          have HO5 := Aside0.mk (blk_below HO.out hb5)
          clear hC5 hb5 HT HY HY4 HO
          go_wp2_with fail
          have HT := Aside0.mk (show Kd.C (Kd.slice 24 k24) w5 (some ⟨w3.heap.size, 0, none⟩) [l].length [l] from C_lit HO5.out [l] (by simp) (fun j xs hj => by
            match j, hj with
            | 0, hj => obtain rfl := Option.some.inj hj; exact ⟨A0, c0, rfl, hc, Kd.C_below HC3.out HB5.out⟩
            | j + 1, hj => simp at hj))
          refine (rmerge_at _ _ [l] _ rfl HT.out (Nat.le_refl _) (by simp) (by simp; omega)).mono ?_
          rintro e w6 ⟨A6, c6, rfl, hle6, hC6, hb6⟩
          simp only [List.flatten_cons, List.flatten_nil, List.append_nil] at hle6 hC6 ⊢
          have HC6 := Aside0.mk hC6
          have HB6 := Aside0.mk hb6
          have hvl := view_len l
          clear hC6 hb6 HT HO5
          go_wp2_with fail
          refine (same_at A5 A6 c5 c6 (view l) w6 (Kd.C_below HC5.out HB6.out) hle5 HC6.out hle6 (by omega)).mono ?_
          rintro e w7 ⟨rfl, hb7⟩
          have HB7 := Aside0.mk (below_step HB1.out (below_step HB2.out (below_step HB3.out (below_step HB5.out (below_step HB6.out hb7)))))
          clear hb7
          go_wp2
          go_ret
          exact ⟨rfl, HB7.out⟩
        · have t3 : decide (0 < (m : Int)) = true := decide_eq_true (by omega)
          have t4 : decide (0 < m) = true := decide_eq_true h0
          have t5 : decide ((l.length : Int) ≤ (a.length : Int) + (b.length : Int) + (m : Int)) = true := decide_eq_true (by omega)
          clear hmm hpc HM
          go_wp2
          go_ret
          exact ⟨rfl, below_step HB1.out (below_step HB2.out HB3.out)⟩
theorem bounds_of {l : List S24} (h : l.length * 24 ≤ reachBytes ∧ ∀ y ∈ l, Fits y) : ∀ x ∈ l, -9223372036854775808 ≤ x.f0 ∧ x.f0 ≤ 9223372036854775807 := by
  intro x hx
  exact (Go.Lit.wf_int_iff _ _).1 (h.2 x hx).1
end Go.Proofs.Ytfamnbejimbenaa.X
