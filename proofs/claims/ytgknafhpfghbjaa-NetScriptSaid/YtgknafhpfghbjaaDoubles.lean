/- NetDoubles, walked. -/
import Derived.Test.YtgknafhpfghbjaaOrder
set_option linter.unusedVariables false
set_option linter.unusedSimpArgs false
namespace Go.Proofs.Ytgknafhpfghbjaa.X
open Go.RowKit Go.Proofs.Ytgknafhpfghbjaa.B Go.Proofs.Ytgknafhpfghbjaa Go.Proofs.YtgknafhpfghbjaaW.PrintWords Go.Proofs.YtgknafhpfghbjaaW.PrintLast Go.Proofs.YtgknafhpfghbjaaW.PrintMore

section
variable {t : Nat} {w w' : World} {base g : Nat} {ok : Nat → Prop} {v : Value} {xs ys : List S32}
theorem NPost.kept_ (h : NPost t w w' base g ok v ys) : Kept w w' (Foot g v) := by obtain ⟨_, _, _, h, _⟩ := h; exact h
theorem NPost.below_ (h : NPost t w w' base g ok v ys) : Below base w w' := by obtain ⟨_, _, h, _⟩ := h; exact h
theorem NPost.net_ (h : NPost t w w' base g ok v ys) : ∃ v1, Net t w' base g ok v1 ys := by obtain ⟨v1, h, _⟩ := h; exact ⟨v1, h⟩
/-- A packet's cells that are put aside live on over a net's call. -/
theorem NPost.blk_ (h : NPost t w w' base g ok v ys) (hN : Net t w base g ok v xs) {k : Nat} {cs : Array Value} (hb : w.heap[k]? = some (.cells cs 32 (0, 0))) (hno : ¬ ok k) : w'.heap[k]? = some (.cells cs 32 (0, 0)) := by
  refine blk_kept hb h.kept_ ?_
  rintro (rfl | hk)
  · have h2 := hN.box
    rw [hb] at h2
    injection h2 with h2
    injection h2 with _ h2
    rcases hN.ty with e | e <;> rw [e] at h2 <;> cases h2
  · exact hno (hN.row.own k hk).1
theorem NPost.data_ (h : NPost t w w' base g ok v ys) (hN : Net t w base g ok v xs) {b : Nat} {okb : Nat → Prop} {u : Value} {zs : List Int} (hr : (Kd.int .u8).R 5 w b okb u zs) : (Kd.int .u8).R 5 w' b okb u zs := hN.keepR h.kept_ hr
end
theorem same_calls (x : S32) (A1 : Option Addr) (c1 : Nat) (A2 : Option Addr) (c2 : Nat) (w : World) (h1 : Kd.C (Kd.int .u8) w A1 x.f2.length x.f2) (l1 : x.f2.length ≤ c1) (h2 : Kd.C (Kd.int .u8) w A2 x.f2.length x.f2) (l2 : x.f2.length ≤ c2) :
    Calls Try.prog 16 #[.agg #[.int .i64 x.f0, .int .i64 x.f1, .slice A1 x.f2.length c1], .agg #[.int .i64 x.f0, .int .i64 x.f1, .slice A2 x.f2.length c2]] w fun e w' => e = .returned (.bool true) ∧ Below w.heap.size w w' := by
  refine thermographlaw02_same.calls x.f0 x.f1 A1 c1 x.f2 x.f0 x.f1 A2 c2 x.f2 true w h1 l1 h2 l2 ?_
  simp [thermographlaw02_same.f]
/-- The loop that sends all. -/
theorem keep_small {tt : Nat → Int} {l : List (List Int)} {a n : Nat} : ∀ x ∈ keep tt l a n, x.f2.length ≤ 32768 := by
  intro x hx
  obtain ⟨j, _, _, rfl, h⟩ := keep_mem tt hx
  exact h
set_option maxHeartbeats 4000000 in
theorem doubles_calls (A0 : Option Addr) (c0 : Nat) (l : List (List Int)) (i : Int) (w : World) (hC0 : CL w A0 l) (hc0 : l.length ≤ c0) :
    Calls Try.prog 6 #[.slice A0 l.length c0, .int .i64 i] w fun e w' => e = .returned (.bool true) ∧ Below w.heap.size w w' := by
  have HC0 := Aside0.mk hC0
  have hll := hC0.2.1
  clear hC0
  by_cases hm : 256 < l.length
  · have t1 : decide (256 < (l.length : Int)) = true := decide_eq_true (by omega)
    have t2 : decide (256 < l.length) = true := decide_eq_true hm
    go_enter Try.func6, Try.ntmps6
    go_wp2
    go_ret
    exact ⟨rfl, Below.refl _ _⟩
  · have t1 : decide (256 < (l.length : Int)) = false := decide_eq_false (by omega)
    have t2 : decide (256 < l.length) = false := decide_eq_false hm
    have hl : l.length ≤ 256 := by omega
    have HO := Aside0.mk (one_new w)
    go_enter Try.func6, Try.ntmps6
    go_wp2_with (refine (new_calls _).mono ?_; rintro e w1 ⟨rfl, rfl⟩)
    clear t1 t2
    go_loopw [6] (fun v4 wr => ∃ k : Nat, v4 = .int .i64 k ∧ k ≤ l.length ∧ Aside0 (One w wr w.heap.size (keep (fun _ => 0) l 0 k))) (fun v4 _ => l.length - (intOf v4).toNat)
    case atStart => exact ⟨0, rfl, by omega, HO⟩
    case round =>
      obtain ⟨k, rfl, hk, HK⟩ := hrel
      clear HO
      by_cases hlt : k < l.length
      · have t1 : decide ((k : Int) < (l.length : Int)) = true := decide_eq_true (by omega)
        have t2 : decide (k < l.length) = true := decide_eq_true hlt
        obtain ⟨hbk, v, hN⟩ := HK.out
        obtain ⟨ad, A1, c1, hA, hcs, hl1, hC1⟩ := at_row (Kd.C_below HC0.out hbk) k hlt
        subst hA
        obtain ⟨hs1, hs2⟩ := send_keep (fun _ => 0) l k (by omega) 0 rfl _ rfl
        generalize l.getD k [] = ds at hcs hl1 hC1 hs1 hs2
        have hn1 := hC1.2.1
        have HN := Aside0.mk hN
        have HB := Aside0.mk hbk
        have HC1 := Aside0.mk hC1
        have HS := Aside0.mk hs1
        have hki : (k : Int) < (l.length : Int) := by omega
        clear hN hbk hC1 hs1 hs2 HK
        go_wp2_with fail
        refine (send_calls HN.out HB.out.size (fun _ _ => trivial) _ _ A1 c1 ds (by omega) hl1 HC1.out).mono ?_
        rintro e w2 ⟨rfl, hp⟩
        rw [HS.out] at hp
        have HP := Aside0.mk (One.post HB.out hp)
        clear hp
        go_wp2
        go_roundw
        case rel => exact ⟨k + 1, by go_num, by omega, HP⟩
        case measure => simp [intOf]; omega
      · have t1 : decide ((k : Int) < (l.length : Int)) = false := decide_eq_false (by omega)
        have t2 : decide (k < l.length) = false := decide_eq_false hlt
        obtain ⟨hbk, v, hN⟩ := HK.out
        have hsm : ∀ x ∈ keep (fun _ => 0) l 0 k, x.f2.length ≤ 32768 := keep_small
        have hxl : (keep (fun _ => 0) l 0 k).length ≤ 256 := Nat.le_trans (keep_len _ _ _ _) (by omega)
        generalize keep (fun _ => 0) l 0 k = xs at hN hsm hxl
        have HN := Aside0.mk hN
        have HB := Aside0.mk hbk
        have HSM := Aside0.mk hsm
        clear hN hbk HK hsm
        cases hi : isAt xs i with
        | false =>
          have hd1 : dblE xs i = 11 := by simp [dblE, hi]
          have hd2 : dblL xs i = xs := by simp [dblL, hi]
          have ht1 : takeE xs i = 11 := by simp [takeE, hi]
          have ht2 : takeL xs i = xs := by simp [takeL, hi]
          have HD1 := Aside0.mk hd1
          have HD2 := Aside0.mk hd2
          have HT1 := Aside0.mk ht1
          have HT2 := Aside0.mk ht2
          have HI := Aside0.mk hi
          clear hd1 hd2 ht1 ht2 hi
          go_wp2_with fail
          refine (len_calls HN.out).mono ?_
          rintro e w1 ⟨rfl, rfl⟩
          go_wp2_with fail
          refine (at_calls HN.out HB.out.size i).mono ?_
          generalize takeP xs i = x
          rintro e w2 ⟨A1, c1, rfl, hl1, hu, hb2⟩
          rw [HI.out]
          have HN2 := Aside0.mk (HN.out.below (below_alloc hb2 (.cells #[.int .i64 x.f0, .int .i64 x.f1, .slice A1 x.f2.length c1] 32)))
          have HB2 := Aside0.mk (below_step HB.out (below_alloc hb2 (.cells #[.int .i64 x.f0, .int .i64 x.f1, .slice A1 x.f2.length c1] 32)))
          clear hb2 hu
          go_wp2_with fail
          refine (double_calls HN2.out HB2.out.size (fun _ _ => trivial) i).mono ?_
          rintro e w3 ⟨rfl, hp⟩
          rw [HD1.out]
          rw [HD2.out] at hp
          obtain ⟨v3, hN3⟩ := hp.net_
          have HN3 := Aside0.mk hN3
          have HB3 := Aside0.mk (HB2.out.trans hp.below_)
          clear hp hN3
          go_wp2_with fail
          refine (drop_calls HN3.out HB3.out.size (fun _ _ => trivial) i).mono ?_
          rintro e w4 ⟨rfl, hp⟩
          rw [HT1.out]
          rw [HT2.out] at hp
          obtain ⟨v4, hN4⟩ := hp.net_
          have HN4 := Aside0.mk hN4
          have HB4 := Aside0.mk (HB3.out.trans hp.below_)
          clear hp hN4
          go_wp2_with fail
          refine (len_calls HN4.out).mono ?_
          rintro e w5 ⟨rfl, rfl⟩
          go_wp2
          go_ret
          exact ⟨rfl, HB4.out⟩
        | true =>
          obtain ⟨hi0, hi1⟩ := isAt_true.1 hi
          have hpx : takeP xs i = rd_T32 xs i := by simp [takeP, hi]
          have hxs := HSM.out _ (rd_mem hi)
          have HI := Aside0.mk hi
          have HPX := Aside0.mk hpx
          clear hpx
          by_cases hf : xs.length = 256
          · have hd1 : dblE xs i = 12 := by simp [dblE, hi, hf]
            have hd2 : dblL xs i = xs := by simp [dblL, hi, hf]
            have HD1 := Aside0.mk hd1
            have HD2 := Aside0.mk hd2
            have t3 : ((xs.length : Int) == 256) = true := by simp; omega
            have t4 : decide ((xs.length : Int) = 256) = true := decide_eq_true (by omega)
            have hf' : (xs.length : Int) = 256 := by omega
            have HF := Aside0.mk hf
            clear hd1 hd2 hi hf
            go_wp2_with fail
            refine (len_calls HN.out).mono ?_
            rintro e w1 ⟨rfl, rfl⟩
            go_wp2_with fail
            refine (at_calls HN.out HB.out.size i).mono ?_
            generalize takeP xs i = x
            rintro e w2 ⟨A1, c1, rfl, hl1, hu, hb2⟩
            rw [HI.out]
            have HN2 := Aside0.mk (HN.out.below (below_alloc hb2 (.cells #[.int .i64 x.f0, .int .i64 x.f1, .slice A1 x.f2.length c1] 32)))
            have HB2 := Aside0.mk (below_step HB.out (below_alloc hb2 (.cells #[.int .i64 x.f0, .int .i64 x.f1, .slice A1 x.f2.length c1] 32)))
            clear hb2 hu
            go_wp2_with fail
            refine (double_calls HN2.out HB2.out.size (fun _ _ => trivial) i).mono ?_
            rintro e w3 ⟨rfl, hp⟩
            rw [HD1.out]
            rw [HD2.out] at hp
            obtain ⟨v3, hN3⟩ := hp.net_
            have HN3 := Aside0.mk hN3
            have HB3 := Aside0.mk (HB2.out.trans hp.below_)
            clear hp hN3
            go_wp2_with fail
            refine (len_calls HN3.out).mono ?_
            rintro e w5 ⟨rfl, rfl⟩
            go_wp2
            go_ret
            exact ⟨rfl, HB3.out⟩
          · have hd1 : dblE xs i = 0 := by simp [dblE, hi, hf]
            have hd2 : dblL xs i = xs ++ [rd_T32 xs i] := by simp [dblL, hi, hf]
            have HD1 := Aside0.mk hd1
            have HD2 := Aside0.mk hd2
            have t3 : ((xs.length : Int) == 256) = false := by simp; omega
            have t4 : decide ((xs.length : Int) = 256) = false := decide_eq_false (by omega)
            obtain ⟨j, hj⟩ : ∃ j : Nat, i = (j : Int) := ⟨i.toNat, by omega⟩
            have hjl : j < xs.length := by omega
            have hat1 : takeP (xs ++ [rd_T32 xs i]) (xs.length : Int) = rd_T32 xs i ∧ isAt (xs ++ [rd_T32 xs i]) (xs.length : Int) = true := by
              have h1 : isAt (xs ++ [rd_T32 xs i]) (xs.length : Int) = true := by rw [isAt_true]; simp; omega
              refine ⟨?_, h1⟩
              have h2 : ((xs.length : Int)).toNat = xs.length := by omega
              simp only [takeP, h1, if_true]
              rw [rd_T32, h2]
              simp
            have hi2 : isAt (xs ++ [rd_T32 xs i]) i = true := by rw [isAt_true]; simp; omega
            have htk : takeE (xs ++ [rd_T32 xs i]) i = 0 ∧ takeL (xs ++ [rd_T32 xs i]) i = xs.eraseIdx j ++ [rd_T32 xs i] := by
              refine ⟨by simp [takeE, hi2], ?_⟩
              simp only [takeL, hi2, if_true]
              rw [show i.toNat = j by omega, List.eraseIdx_append_of_lt_length hjl]
            have hln : (xs.eraseIdx j).length + 1 = xs.length := by rw [List.length_eraseIdx_of_lt hjl]; omega
            have hat2 : takeP (xs.eraseIdx j ++ [rd_T32 xs i]) ((xs.length : Int) - 1) = rd_T32 xs i ∧ isAt (xs.eraseIdx j ++ [rd_T32 xs i]) ((xs.length : Int) - 1) = true := by
              have h1 : isAt (xs.eraseIdx j ++ [rd_T32 xs i]) ((xs.length : Int) - 1) = true := by rw [isAt_true]; simp; omega
              refine ⟨?_, h1⟩
              have h2 : ((xs.length : Int) - 1).toNat = (xs.eraseIdx j).length := by omega
              simp only [takeP, h1, if_true]
              rw [rd_T32, h2]
              simp
            generalize xs.eraseIdx j = zs at htk hln hat2
            generalize rd_T32 xs i = x at HPX HD2 hxs hat1 htk hat2
            have HAT1 := Aside0.mk hat1
            have HTK := Aside0.mk htk
            have HAT2 := Aside0.mk hat2
            have HLN := Aside0.mk hln
            have hsub : IntKind.i64.wrap ((xs.length : Int) - 1) = (xs.length : Int) - 1 := IntWalk.i64_in _ (by omega)
            have hxp : 0 < xs.length := by omega
            clear hd1 hd2 hat1 htk hat2 hi2 hi hj hln hf
            go_wp2_with fail
            refine (len_calls HN.out).mono ?_
            rintro e w1 ⟨rfl, rfl⟩
            go_wp2_with fail
            refine (at_calls HN.out HB.out.size i).mono ?_
            rw [HPX.out, HI.out]
            rintro e w2 ⟨A1, c1, rfl, hl1, hu, hb2⟩
            have HB2 := Aside0.mk (below_step HB.out (below_alloc hb2 (.cells #[.int .i64 x.f0, .int .i64 x.f1, .slice A1 x.f2.length c1] 32)))
            have HN2 := Aside0.mk (((HN.out.below hb2).bound.mono (ok' := fun k => k ≠ w2.heap.size) (fun k hk => by omega)).alloc (.cells #[.int .i64 x.f0, .int .i64 x.f1, .slice A1 x.f2.length c1] 32))
            have HU2 := Aside0.mk (Kd.R_below hu (below_alloc (Below.refl _ _) (.cells #[.int .i64 x.f0, .int .i64 x.f1, .slice A1 x.f2.length c1] 32)))
            have HX2 := Aside0.mk (blk_new w2 (.cells #[.int .i64 x.f0, .int .i64 x.f1, .slice A1 x.f2.length c1] 32))
            clear hb2 hu
            go_wp2_with fail
            refine (double_calls HN2.out HB2.out.size (fun k hk => by simp at hk; omega) i).mono ?_
            rintro e w3 ⟨rfl, hp⟩
            rw [HD1.out]
            rw [HD2.out] at hp
            obtain ⟨v3, hN3⟩ := hp.net_
            have HN3 := Aside0.mk hN3
            have HB3 := Aside0.mk (HB2.out.trans hp.below_)
            have HU3 := Aside0.mk (hp.data_ HN2.out HU2.out)
            have hX3 := hp.blk_ HN2.out HX2.out (fun h => h rfl)
            have hz3 : w2.heap.size < w3.heap.size := blk_lt hX3
            have HX3 := Aside0.mk hX3
            clear hp hN3 hX3
            go_wp2_with fail
            refine (at_calls HN3.out HB3.out.size _).mono ?_
            rw [HAT1.out.1, HAT1.out.2]
            rintro e w4 ⟨A2, c2, rfl, hl2, hu, hb4⟩
            have HB4 := Aside0.mk (below_step HB3.out (below_alloc hb4 (.cells #[.int .i64 x.f0, .int .i64 x.f1, .slice A2 x.f2.length c2] 32)))
            have HN4 := Aside0.mk (((HN3.out.below hb4).bound.mono (ok' := fun k => k ≠ w2.heap.size ∧ k ≠ w4.heap.size) (fun k hk => ⟨hk.1, by omega⟩)).alloc (.cells #[.int .i64 x.f0, .int .i64 x.f1, .slice A2 x.f2.length c2] 32))
            have HU4 := Aside0.mk (Kd.R_below (Kd.R_below HU3.out hb4) (below_alloc (Below.refl _ _) (.cells #[.int .i64 x.f0, .int .i64 x.f1, .slice A2 x.f2.length c2] 32)))
            have HV4 := Aside0.mk (Kd.R_below hu (below_alloc (Below.refl _ _) (.cells #[.int .i64 x.f0, .int .i64 x.f1, .slice A2 x.f2.length c2] 32)))
            have hX4 := blk_alloc (blk_below HX3.out hb4) (.cells #[.int .i64 x.f0, .int .i64 x.f1, .slice A2 x.f2.length c2] 32)
            have hY4 := blk_new w4 (.cells #[.int .i64 x.f0, .int .i64 x.f1, .slice A2 x.f2.length c2] 32)
            have hz4 : w2.heap.size < w4.heap.size := Nat.lt_of_lt_of_le hz3 hb4.size
            have HX4 := Aside0.mk hX4
            have HY4 := Aside0.mk hY4
            have a0 := (blk_cell hX4 0).trans rfl
            have a1 := (blk_cell hX4 1).trans rfl
            have a2 := (blk_cell hX4 2).trans rfl
            clear hb4 hu hX4 hY4
            go_wp2_with fail
            refine (same_calls x A1 c1 A2 c2 _ (Kd.R_reads' HU4.out).2.2 hl1 (Kd.R_reads' HV4.out).2.2 hl2).mono ?_
            rintro e w5 ⟨rfl, hb5⟩
            have HN5 := Aside0.mk (HN4.out.below hb5)
            have HB5 := Aside0.mk (below_step HB4.out hb5)
            have HU5 := Aside0.mk (Kd.R_below HU4.out hb5)
            have HX5 := Aside0.mk (blk_below HX4.out hb5)
            have HY5 := Aside0.mk (blk_below HY4.out hb5)
            have hz5 : w4.heap.size < w5.heap.size := blk_lt HY5.out
            clear hb5 a0 a1 a2
            go_wp2_with fail
            refine (drop_calls HN5.out HB5.out.size (fun k hk => ⟨by omega, by omega⟩) i).mono ?_
            rintro e w6 ⟨rfl, hp⟩
            rw [HTK.out.1]
            rw [HTK.out.2] at hp
            obtain ⟨v6, hN6⟩ := hp.net_
            have HN6 := Aside0.mk hN6
            have HB6 := Aside0.mk (HB5.out.trans hp.below_)
            have HU6 := Aside0.mk (hp.data_ HN5.out HU5.out)
            have HX6 := Aside0.mk (hp.blk_ HN5.out HX5.out (fun h => h.1 rfl))
            have HY6 := Aside0.mk (hp.blk_ HN5.out HY5.out (fun h => h.2 rfl))
            have hzl : ((zs ++ [x]).length : Int) = (xs.length : Int) := by have := HLN.out; simp; omega
            clear hp hN6
            go_wp2_with fail
            refine (len_calls HN6.out).mono ?_
            rw [hzl]
            rintro e w7 ⟨rfl, rfl⟩
            clear hzl
            go_wp2_with fail
            refine (at_calls HN6.out HB6.out.size _).mono ?_
            rw [HAT2.out.1, HAT2.out.2]
            rintro e w8 ⟨A3, c3, rfl, hl3, hu, hb8⟩
            have hX8 := blk_below HX6.out hb8
            have hY8 := blk_below HY6.out hb8
            have HB8 := Aside0.mk (below_step HB6.out hb8)
            have HU8 := Aside0.mk (Kd.R_below HU6.out hb8)
            have HV8 := Aside0.mk hu
            have HX8 := Aside0.mk hX8
            have HY8 := Aside0.mk hY8
            have a0 := (blk_cell hX8 0).trans rfl
            have a1 := (blk_cell hX8 1).trans rfl
            have a2 := (blk_cell hX8 2).trans rfl
            have b0 := (blk_cell hY8 0).trans rfl
            have b1 := (blk_cell hY8 1).trans rfl
            have b2 := (blk_cell hY8 2).trans rfl
            have f0 := blk_frozen hY8 0
            have f1 := blk_frozen hY8 1
            have f2 := blk_frozen hY8 2
            clear hb8 hu hX8 hY8
            go_wp2_with fail
            have set3 : ∀ {b : Nat} {okb : Nat → Prop} {u : Value} {ys : List Int}, (Kd.int .u8).R 5 w8 b okb u ys → (Kd.int .u8).R 5 (((w8.setCell ⟨w4.heap.size, 0, none⟩ (.int .i64 x.f0)).setCell ⟨w4.heap.size, 1, none⟩ (.int .i64 x.f1)).setCell ⟨w4.heap.size, 2, none⟩ (.slice A3 x.f2.length c3)) b okb u ys := fun h =>
              Kd.R_set (Kd.R_set (Kd.R_set h HY8.out (by simp [Kd.int, Kd.scalar]) 0 _) (blk_set HY8.out 0 _) (by simp [Kd.int, Kd.scalar]) 1 _) (blk_set (blk_set HY8.out 0 _) 1 _) (by simp [Kd.int, Kd.scalar]) 2 _
            have hge : w.heap.size ≤ w4.heap.size := by have := HB2.out.size; simp at this; omega
            have HB9 := Aside0.mk (below_set (below_set (below_set HB8.out hge (j := 0) (v := .int .i64 x.f0)) hge (j := 1) (v := .int .i64 x.f1)) hge (j := 2) (v := .slice A3 x.f2.length c3))
            refine (same_calls x A1 c1 A3 c3 _ (Kd.R_reads' (set3 HU8.out)).2.2 hl1 (Kd.R_reads' (set3 HV8.out)).2.2 hl3).mono ?_
            rintro e w9 ⟨rfl, hb9⟩
            have HB10 := Aside0.mk (below_step HB9.out hb9)
            clear hb9 set3 a0 a1 a2 b0 b1 b2 f0 f1 f2
            go_wp2
            go_ret
            exact ⟨rfl, HB10.out⟩
end Go.Proofs.Ytgknafhpfghbjaa.X
