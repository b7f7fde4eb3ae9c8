/- NetCounts, walked. -/
import Derived.Test.YtgknafhpfghbjaaCntLaw
import Derived.OpenShut
set_option linter.unusedVariables false
set_option linter.unusedSimpArgs false
namespace Go.Proofs.Ytgknafhpfghbjaa.X
open Go.RowKit Go.Proofs.Ytgknafhpfghbjaa.B Go.Proofs.Ytgknafhpfghbjaa Go.Proofs.YtgknafhpfghbjaaW.PrintWords Go.Proofs.YtgknafhpfghbjaaW.PrintLast Go.Proofs.YtgknafhpfghbjaaW.PrintMore

theorem One.stored_ {w wc w3 : World} {g b : Nat} {xs : List S32} {es : Array MapEntry} {clock : Nat} (h : One w wc g xs) (hb : wc.heap[b]? = some (.map es clock)) (hg : wc.grownBy w3 (some b)) (hwb : w.heap.size ≤ b) : One w w3 g xs := by
  obtain ⟨h1, v, h2⟩ := h
  exact ⟨pw_below_grown h1 _ h1.size hg (fun k hk => by injection hk with hk; omega), v, h2.stored hb hg⟩
set_option maxRecDepth 100000 in
set_option maxHeartbeats 8000000 in
theorem counts_calls (A0 : Option Addr) (c0 : Nat) (s : List S40) (w : World) (hC0 : Kd.C k40 w A0 s.length s) (hc0 : s.length ≤ c0) (hl : s.length ≤ 140737488355328) :
    Calls Try.prog 5 #[.slice A0 s.length c0] w fun e w' => e = .returned (.bool true) ∧ Below w.heap.size w w' := by
  have HC0 := Aside0.mk hC0
  obtain ⟨r0, hr0, hk0⟩ := heavy_calls A0 c0 s w hC0 hc0 hl
  have HK := Aside0.mk hk0
  clear hk0 hC0
  cases r0 with
  | true =>
    clear hr0
    go_enter Try.func5, Try.ntmps5
    go_wp2_with (refine HK.out.mono ?_; rintro e w1 ⟨rfl, hb1⟩; have HB := Aside0.mk hb1; clear hb1 HK)
    go_ret
    exact ⟨rfl, HB.out⟩
  | false =>
    obtain ⟨hsl, hsd⟩ := hr0 rfl
    have HSD := Aside0.mk hsd
    clear hr0 hsd
    have hmm := @run_makeMap Try.prog
    go_enter Try.func5, Try.ntmps5
    go_wp2_with (first | (refine HK.out.mono ?_; rintro e w1 ⟨rfl, hb1⟩; have HB := Aside0.mk hb1; clear hb1 HK) | (refine (new_calls _).mono ?_; rintro e w2 ⟨rfl, hw2⟩; subst w2))
    have HO0 := Aside0.mk ((show One w (w1.alloc (.cells #[.slice none 0 0] 51)) w1.heap.size [] from ⟨below_alloc HB.out _, _, new_net w1 w.heap.size _ HB.out.size 51 (.inl rfl)⟩).below (below_alloc (Below.refl _ _) (.map #[] 0)))
    have HM0 := Aside0.mk (imap_new (w1.alloc (.cells #[.slice none 0 0] 51)))
    have hz : (w1.alloc (.cells #[.slice none 0 0] 51)).heap.size = w1.heap.size + 1 := by simp
    rw [hz] at HM0
    have HWM := Aside0.mk (show w.heap.size ≤ w1.heap.size + 1 from Nat.le_trans HB.out.size (Nat.le_succ _))
    clear hz
    go_loopw [5] (fun v5 wr => ∃ i : Nat, v5 = .int .i64 i ∧ i ≤ s.length ∧ Aside0 (∃ xs f hs sz n, n ≤ i ∧ CntI s xs f ∧ One w wr w1.heap.size xs ∧ IMap wr (w1.heap.size + 1) n f hs sz)) (fun v5 _ => s.length - (intOf v5).toNat)
    case atStart => exact ⟨0, rfl, by omega, ⟨_, _, _, _, 0, Nat.le_refl _, cnt_start s, HO0.out, HM0.out⟩⟩
    case round =>
      clear HO0 HM0
      obtain ⟨i, rfl, hi, HI⟩ := hrel
      obtain ⟨xs, f, hs, sz, n, hn, hCI, hO, hM⟩ := HI.out
      have HCI := Aside0.mk hCI
      have HM := Aside0.mk hM
      have HO := Aside0.mk hO
      clear hCI hM hO HI
      by_cases hlt : i < s.length
      · have t1 : decide ((i : Int) < (s.length : Int)) = true := decide_eq_true (by omega)
        have t2 : decide (i < s.length) = true := decide_eq_true hlt
        have hil : (i : Int) < (s.length : Int) := by omega
        obtain ⟨ad, A3, c3, hA, e0, e1, e2, e3, hl3, hC3⟩ := at_step (Kd.C_below HC0.out HO.out.1) i hlt
        subst hA
        have hdl := HSD.out i hlt
        obtain ⟨k0, hk0⟩ : ∃ k0, k0 = (s.getD i z40).f0 := ⟨_, rfl⟩
        obtain ⟨k1, hk1⟩ : ∃ k1, k1 = (s.getD i z40).f1 := ⟨_, rfl⟩
        obtain ⟨k2, hk2⟩ : ∃ k2, k2 = (s.getD i z40).f2 := ⟨_, rfl⟩
        obtain ⟨ds, hds⟩ : ∃ ds, ds = (s.getD i z40).f3 := ⟨_, rfl⟩
        rw [← hk0] at e0
        rw [← hk1] at e1
        rw [← hk2] at e2
        rw [← hds] at e3 hl3 hC3 hdl
        have HDS := Aside0.mk hds
        have HC3 := Aside0.mk (Kd.C_below hC3 (below_alloc (Below.refl wr.heap.size wr) (.cells #[.int .i64 k0, .int .i64 k1, .int .i64 k2, .slice A3 ds.length c3] 40)))
        have HO1 := Aside0.mk (HO.out.below (below_alloc (Below.refl wr.heap.size wr) (.cells #[.int .i64 k0, .int .i64 k1, .int .i64 k2, .slice A3 ds.length c3] 40)))
        have HM1 := Aside0.mk (HM.out.below (below_alloc (Below.refl wr.heap.size wr) (.cells #[.int .i64 k0, .int .i64 k1, .int .i64 k2, .slice A3 ds.length c3] 40)))
        have hX1 := Aside0.mk (blk_new wr (.cells #[.int .i64 k0, .int .i64 k1, .int .i64 k2, .slice A3 ds.length c3] 40))
        clear hC3 hds hk0 hk1 hk2 HO HM
        obtain ⟨hb1, v1, hN1⟩ := HO1.out
        have hxl := hN1.le
        have HN1 := Aside0.mk hN1
        have HB1 := Aside0.mk hb1
        clear hN1 hb1
        have hcb := fun q => cnt_bounds xs q
        have HCB := Aside0.mk hcb
        clear hcb
        by_cases hk : k0 = 0
        · subst hk
          go_wp2_with (refine (len_calls HN1.out).mono ?_; rintro e w' ⟨rfl, hw'⟩; subst w')
          by_cases hd : 32768 < ds.length
          · have hE := Aside0.mk (show sendE xs ds = 1 from if_pos hd)
            have hL := Aside0.mk (show sendL xs (i : Int) 7 ds = xs from if_pos hd)
            refine (send_calls HN1.out HB1.out.size (fun _ _ => trivial) (i : Int) 7 A3 c3 ds (by omega) hl3 HC3.out).mono ?_
            rintro e w2 ⟨rfl, hp⟩
            rw [hE.out]
            rw [hL.out] at hp
            have HOX := Aside0.mk (One.post HB1.out hp)
            have HMX := Aside0.mk (HM1.out.net HN1.out hp.kept_)
            have HCX := HCI
            clear hp
            obtain ⟨ys, hys⟩ : ∃ ys, ys = xs := ⟨_, rfl⟩
            rw [← hys] at HOX HCX
            go_wp2_with fail
            obtain ⟨hbT, vT, hNT⟩ := HOX.out
            have hyl := hNT.le
            have t8 : decide (256 < (ys.length : Int)) = false := decide_eq_false (by omega)
            have t9 : decide (256 < ys.length) = false := decide_eq_false (by omega)
            have t10 : decide ((ys.length : Int) < 0) = false := decide_eq_false (by omega)
            have HNT := Aside0.mk hNT
            clear hNT hbT
            go_wp2_with (refine (len_calls HNT.out).mono ?_; rintro e w' ⟨rfl, hw'⟩; subst w')
            go_roundw
            case rel => exact ⟨i + 1, by go_num, by omega, ⟨ys, _, _, _, _, by omega, HCX.out, HOX.out, HMX.out⟩⟩
            case measure => simp [intOf]; omega
          · by_cases hf : xs.length = 256
            · have hE := Aside0.mk (show sendE xs ds = 12 by unfold sendE; rw [if_neg hd, if_pos hf])
              have hL := Aside0.mk (show sendL xs (i : Int) 7 ds = xs by unfold sendL; rw [if_neg hd, if_pos hf])
              refine (send_calls HN1.out HB1.out.size (fun _ _ => trivial) (i : Int) 7 A3 c3 ds (by omega) hl3 HC3.out).mono ?_
              rintro e w2 ⟨rfl, hp⟩
              rw [hE.out]
              rw [hL.out] at hp
              have HOX := Aside0.mk (One.post HB1.out hp)
              have HMX := Aside0.mk (HM1.out.net HN1.out hp.kept_)
              have HCX := HCI
              clear hp
              obtain ⟨ys, hys⟩ : ∃ ys, ys = xs := ⟨_, rfl⟩
              rw [← hys] at HOX HCX
              go_wp2_with fail
              obtain ⟨hbT, vT, hNT⟩ := HOX.out
              have hyl := hNT.le
              have t8 : decide (256 < (ys.length : Int)) = false := decide_eq_false (by omega)
              have t9 : decide (256 < ys.length) = false := decide_eq_false (by omega)
              have t10 : decide ((ys.length : Int) < 0) = false := decide_eq_false (by omega)
              have HNT := Aside0.mk hNT
              clear hNT hbT
              go_wp2_with (refine (len_calls HNT.out).mono ?_; rintro e w' ⟨rfl, hw'⟩; subst w')
              go_roundw
              case rel => exact ⟨i + 1, by go_num, by omega, ⟨ys, _, _, _, _, by omega, HCX.out, HOX.out, HMX.out⟩⟩
              case measure => simp [intOf]; omega
            · have hE := Aside0.mk (show sendE xs ds = 0 by unfold sendE; rw [if_neg hd, if_neg hf])
              have hL := Aside0.mk (show sendL xs (i : Int) 7 ds = xs ++ [⟨(i : Int), 7, ds⟩] by unfold sendL; rw [if_neg hd, if_neg hf])
              refine (send_calls HN1.out HB1.out.size (fun _ _ => trivial) (i : Int) 7 A3 c3 ds (by omega) hl3 HC3.out).mono ?_
              rintro e w2 ⟨rfl, hp⟩
              rw [hE.out]
              rw [hL.out] at hp
              have HCX := Aside0.mk (HCI.out.snoc ⟨(i : Int), 7, ds⟩ ⟨i, hlt, by rw [HDS.out]⟩)
              have HO2 := Aside0.mk (One.post HB1.out hp)
              have HM2 := Aside0.mk (HM1.out.net HN1.out hp.kept_)
              obtain ⟨ys, hys⟩ : ∃ ys, ys = xs ++ [(⟨(i : Int), 7, ds⟩ : S32)] := ⟨_, rfl⟩
              rw [← hys] at HO2 HCX
              have hfb : 0 ≤ f (i : Int) ∧ f (i : Int) ≤ 256 := by rw [HCI.out.eq]; have := HCB.out (i : Int); omega
              have hlk := HM2.out.look (i : Int) (wfi_of (by omega) (by omega))
              have HCX' : Aside0 (CntI s ys (upd f (i : Int) (f (i : Int) + 1))) := HCX
              obtain ⟨y, hy⟩ : ∃ y, y = f (i : Int) := ⟨_, rfl⟩
              rw [← hy] at hlk hfb HCX'
              obtain ⟨hfb0, hfb1⟩ := hfb
              clear hp HCX hy
              have HCX := HCX'
              go_wp2_with (at_mapUpdate; refine imap_put rfl _ _ _ rfl rfl HM2.out (by omega) (i : Int) (y + 1) rfl rfl (wfi_of (by omega) (by omega)) (wfi_of (by omega) (by omega)) ?_; intro w3 hm3 hg3; obtain ⟨es, clock, hmp⟩ := HM2.out.map_; have HMX := Aside0.mk hm3; have HOX := Aside0.mk (HO2.out.stored_ hmp hg3 HWM.out); clear hm3 hg3 hmp)
              obtain ⟨hbT, vT, hNT⟩ := HOX.out
              have hyl := hNT.le
              have t8 : decide (256 < (ys.length : Int)) = false := decide_eq_false (by omega)
              have t9 : decide (256 < ys.length) = false := decide_eq_false (by omega)
              have t10 : decide ((ys.length : Int) < 0) = false := decide_eq_false (by omega)
              have HNT := Aside0.mk hNT
              clear hNT hbT
              go_wp2_with (refine (len_calls HNT.out).mono ?_; rintro e w' ⟨rfl, hw'⟩; subst w')
              go_roundw
              case rel => exact ⟨i + 1, by go_num, by omega, ⟨ys, _, _, _, _, by omega, HCX.out, HOX.out, HMX.out⟩⟩
              case measure => simp [intOf]; omega
        · have hk' : (k0 == 0) = false := by simpa using hk
          have hkd : decide (k0 = 0) = false := decide_eq_false hk
          by_cases hk3 : k0 = 3
          · subst hk3
            go_wp2_with (refine (len_calls HN1.out).mono ?_; rintro e w' ⟨rfl, hw'⟩; subst w')
            refine (at_calls HN1.out HB1.out.size k1).mono ?_
            cases hia : isAt xs k1 with
            | false =>
              have hE := Aside0.mk (show dblE xs k1 = 11 by simp [dblE, hia])
              have hL := Aside0.mk (show dblL xs k1 = xs by simp [dblL, hia])
              generalize takeP xs k1 = x
              rintro e w2 ⟨A5, c5, rfl, hl5, hu, hb2⟩
              have HN2 := Aside0.mk (HN1.out.below (below_alloc hb2 (.cells #[.int .i64 x.f0, .int .i64 x.f1, .slice A5 x.f2.length c5] 32)))
              have HB2 := Aside0.mk (below_step HB1.out (below_alloc hb2 (.cells #[.int .i64 x.f0, .int .i64 x.f1, .slice A5 x.f2.length c5] 32)))
              have HM1' := Aside0.mk (HM1.out.below (below_alloc hb2 (.cells #[.int .i64 x.f0, .int .i64 x.f1, .slice A5 x.f2.length c5] 32)))
              have hX2 := blk_below hX1.out (below_alloc hb2 (.cells #[.int .i64 x.f0, .int .i64 x.f1, .slice A5 x.f2.length c5] 32))
              have a1 := (blk_cell hX2 1).trans rfl
              clear hb2 hu hX2
              go_wp2_with fail
              refine (double_calls HN2.out HB2.out.size (fun _ _ => trivial) k1).mono ?_
              rintro e w3 ⟨rfl, hp⟩
              rw [hE.out]
              rw [hL.out] at hp
              have HOX := Aside0.mk (One.post HB2.out hp)
              have HMX := Aside0.mk (HM1'.out.net HN2.out hp.kept_)
              have HCX := HCI
              clear hp a1 hia
              obtain ⟨ys, hys⟩ : ∃ ys, ys = xs := ⟨_, rfl⟩
              rw [← hys] at HOX HCX
              go_wp2_with fail
              obtain ⟨hbT, vT, hNT⟩ := HOX.out
              have hyl := hNT.le
              have t8 : decide (256 < (ys.length : Int)) = false := decide_eq_false (by omega)
              have t9 : decide (256 < ys.length) = false := decide_eq_false (by omega)
              have t10 : decide ((ys.length : Int) < 0) = false := decide_eq_false (by omega)
              have HNT := Aside0.mk hNT
              clear hNT hbT
              go_wp2_with (refine (len_calls HNT.out).mono ?_; rintro e w' ⟨rfl, hw'⟩; subst w')
              go_roundw
              case rel => exact ⟨i + 1, by go_num, by omega, ⟨ys, _, _, _, _, by omega, HCX.out, HOX.out, HMX.out⟩⟩
              case measure => simp [intOf]; omega
            | true =>
              have hpx : takeP xs k1 = rd_T32 xs k1 := by simp [takeP, hia]
              obtain ⟨j, hjx, hjm⟩ := HCI.out.mem _ (rd_mem hia)
              rw [hpx]
              by_cases hf : xs.length = 256
              · have hE := Aside0.mk (show dblE xs k1 = 12 by simp [dblE, hia, hf])
                have hL := Aside0.mk (show dblL xs k1 = xs by simp [dblL, hia, hf])
                generalize rd_T32 xs k1 = x
                rintro e w2 ⟨A5, c5, rfl, hl5, hu, hb2⟩
                have HN2 := Aside0.mk (HN1.out.below (below_alloc hb2 (.cells #[.int .i64 x.f0, .int .i64 x.f1, .slice A5 x.f2.length c5] 32)))
                have HB2 := Aside0.mk (below_step HB1.out (below_alloc hb2 (.cells #[.int .i64 x.f0, .int .i64 x.f1, .slice A5 x.f2.length c5] 32)))
                have HM1' := Aside0.mk (HM1.out.below (below_alloc hb2 (.cells #[.int .i64 x.f0, .int .i64 x.f1, .slice A5 x.f2.length c5] 32)))
                have hX2 := blk_below hX1.out (below_alloc hb2 (.cells #[.int .i64 x.f0, .int .i64 x.f1, .slice A5 x.f2.length c5] 32))
                have a1 := (blk_cell hX2 1).trans rfl
                have t5 : decide ((xs.length : Int) < 256) = false := decide_eq_false (by omega)
                have t6 : decide (xs.length < 256) = false := decide_eq_false (by omega)
                clear hb2 hu hX2 hpx hjm
                go_wp2_with fail
                refine (double_calls HN2.out HB2.out.size (fun _ _ => trivial) k1).mono ?_
                rintro e w3 ⟨rfl, hp⟩
                rw [hE.out]
                rw [hL.out] at hp
                have HOX := Aside0.mk (One.post HB2.out hp)
                have HMX := Aside0.mk (HM1'.out.net HN2.out hp.kept_)
                have HCX := HCI
                clear hp a1 hia
                obtain ⟨ys, hys⟩ : ∃ ys, ys = xs := ⟨_, rfl⟩
                rw [← hys] at HOX HCX
                clear hf
                go_wp2_with fail
                obtain ⟨hbT, vT, hNT⟩ := HOX.out
                have hyl := hNT.le
                have t8 : decide (256 < (ys.length : Int)) = false := decide_eq_false (by omega)
                have t9 : decide (256 < ys.length) = false := decide_eq_false (by omega)
                have t10 : decide ((ys.length : Int) < 0) = false := decide_eq_false (by omega)
                have HNT := Aside0.mk hNT
                clear hNT hbT
                go_wp2_with (refine (len_calls HNT.out).mono ?_; rintro e w' ⟨rfl, hw'⟩; subst w')
                go_roundw
                case rel => exact ⟨i + 1, by go_num, by omega, ⟨ys, _, _, _, _, by omega, HCX.out, HOX.out, HMX.out⟩⟩
                case measure => simp [intOf]; omega
              · have hE := Aside0.mk (show dblE xs k1 = 0 by simp [dblE, hia, hf])
                have hL := Aside0.mk (show dblL xs k1 = xs ++ [rd_T32 xs k1] by simp [dblL, hia, hf])
                have HCX0 := Aside0.mk (HCI.out.snoc (rd_T32 xs k1) ⟨j, hjx, hjm⟩)
                have hx0 : (rd_T32 xs k1).f0 = (j : Int) := by rw [hjm]
                generalize rd_T32 xs k1 = x at hL HCX0 hx0
                have HX0 := Aside0.mk hx0
                clear hx0
                rintro e w2 ⟨A5, c5, rfl, hl5, hu, hb2⟩
                have HN2 := Aside0.mk (((HN1.out.below hb2).bound.mono (ok' := fun k => k ≠ w2.heap.size) (fun k hk => by omega)).alloc (.cells #[.int .i64 x.f0, .int .i64 x.f1, .slice A5 x.f2.length c5] 32))
                have HB2 := Aside0.mk (below_step HB1.out (below_alloc hb2 (.cells #[.int .i64 x.f0, .int .i64 x.f1, .slice A5 x.f2.length c5] 32)))
                have HM1' := Aside0.mk (HM1.out.below (below_alloc hb2 (.cells #[.int .i64 x.f0, .int .i64 x.f1, .slice A5 x.f2.length c5] 32)))
                have hX2 := blk_below hX1.out (below_alloc hb2 (.cells #[.int .i64 x.f0, .int .i64 x.f1, .slice A5 x.f2.length c5] 32))
                have HY2 := Aside0.mk (blk_new w2 (.cells #[.int .i64 x.f0, .int .i64 x.f1, .slice A5 x.f2.length c5] 32))
                have a1 := (blk_cell hX2 1).trans rfl
                have t5 : decide ((xs.length : Int) < 256) = true := decide_eq_true (by omega)
                have t6 : decide (xs.length < 256) = true := decide_eq_true (by omega)
                clear hb2 hu hX2 hpx hjm
                go_wp2_with fail
                refine (double_calls HN2.out HB2.out.size (fun k hk => by simp at hk; omega) k1).mono ?_
                rintro e w3' ⟨rfl, hp⟩
                rw [hE.out]
                rw [hL.out] at hp
                have HO2 := Aside0.mk (One.post HB2.out (hp.mono (fun _ _ => trivial)))
                have HM2 := Aside0.mk (HM1'.out.net HN2.out hp.kept_)
                have hY3 := hp.blk_ HN2.out HY2.out (fun h => h rfl)
                have b0 := (blk_cell hY3 0).trans rfl
                rw [HX0.out] at b0
                obtain ⟨ys, hys⟩ : ∃ ys, ys = xs ++ [x] := ⟨_, rfl⟩
                rw [← hys] at HO2 HCX0
                rw [HX0.out] at HCX0
                have hfb : 0 ≤ f (j : Int) ∧ f (j : Int) ≤ 256 := by rw [HCI.out.eq]; have := HCB.out (j : Int); omega
                have hlk := HM2.out.look (j : Int) (wfi_of (by omega) (by omega))
                obtain ⟨y, hy⟩ : ∃ y, y = f (j : Int) := ⟨_, rfl⟩
                rw [← hy] at hlk hfb HCX0
                obtain ⟨hfb0, hfb1⟩ := hfb
                have HCX := HCX0
                clear hp HCX0 hy hY3 a1 hia
                go_wp2_with (at_mapUpdate; refine imap_put rfl _ _ _ rfl rfl HM2.out (by omega) (j : Int) (y + 1) rfl rfl (wfi_of (by omega) (by omega)) (wfi_of (by omega) (by omega)) ?_; intro w3 hm3 hg3; obtain ⟨es, clock, hmp⟩ := HM2.out.map_; have HMX := Aside0.mk hm3; have HOX := Aside0.mk (HO2.out.stored_ hmp hg3 HWM.out); clear hm3 hg3 hmp)
                obtain ⟨hbT, vT, hNT⟩ := HOX.out
                have hyl := hNT.le
                have t8 : decide (256 < (ys.length : Int)) = false := decide_eq_false (by omega)
                have t9 : decide (256 < ys.length) = false := decide_eq_false (by omega)
                have t10 : decide ((ys.length : Int) < 0) = false := decide_eq_false (by omega)
                have HNT := Aside0.mk hNT
                clear hNT hbT
                go_wp2_with (refine (len_calls HNT.out).mono ?_; rintro e w' ⟨rfl, hw'⟩; subst w')
                go_roundw
                case rel => exact ⟨i + 1, by go_num, by omega, ⟨ys, _, _, _, _, by omega, HCX.out, HOX.out, HMX.out⟩⟩
                case measure => simp [intOf]; omega
          · have hk3' : (k0 == 3) = false := by simpa using hk3
            have hkd3 : decide (k0 = 3) = false := decide_eq_false hk3
            go_wp2_with (refine (len_calls HN1.out).mono ?_; rintro e w' ⟨rfl, hw'⟩; subst w')
            refine (take_calls HN1.out HB1.out.size (fun _ _ => trivial) k1).mono ?_
            cases hia : isAt xs k1 with
            | false =>
              have hE := Aside0.mk (show takeE xs k1 = 11 by simp [takeE, hia])
              have hL := Aside0.mk (show takeL xs k1 = xs by simp [takeL, hia])
              rw [hE.out, hL.out]
              generalize takeP xs k1 = x
              rintro e w2 ⟨A5, c5, rfl, hl5, hu, hp⟩
              have HOX := Aside0.mk ((One.post HB1.out hp).below (below_alloc (Below.refl _ _) (.cells #[.int .i64 x.f0, .int .i64 x.f1, .slice A5 x.f2.length c5] 32)))
              have HMX := Aside0.mk ((HM1.out.net HN1.out hp.kept_).below (below_alloc (Below.refl _ _) (.cells #[.int .i64 x.f0, .int .i64 x.f1, .slice A5 x.f2.length c5] 32)))
              have HCX := HCI
              clear hp hu hia
              obtain ⟨ys, hys⟩ : ∃ ys, ys = xs := ⟨_, rfl⟩
              rw [← hys] at HOX HCX
              go_wp2_with fail
              obtain ⟨hbT, vT, hNT⟩ := HOX.out
              have hyl := hNT.le
              have t8 : decide (256 < (ys.length : Int)) = false := decide_eq_false (by omega)
              have t9 : decide (256 < ys.length) = false := decide_eq_false (by omega)
              have t10 : decide ((ys.length : Int) < 0) = false := decide_eq_false (by omega)
              have HNT := Aside0.mk hNT
              clear hNT hbT
              go_wp2_with (refine (len_calls HNT.out).mono ?_; rintro e w' ⟨rfl, hw'⟩; subst w')
              go_roundw
              case rel => exact ⟨i + 1, by go_num, by omega, ⟨ys, _, _, _, _, by omega, HCX.out, HOX.out, HMX.out⟩⟩
              case measure => simp [intOf]; omega
            | true =>
              obtain ⟨j, hj⟩ : ∃ j : Nat, k1 = (j : Int) := ⟨k1.toNat, by have := (isAt_true.1 hia).1; omega⟩
              have hjl : j < xs.length := by have := (isAt_true.1 hia).2; omega
              obtain ⟨q, hq, hqe⟩ := HCI.out.mem _ (List.getElem_mem hjl)
              obtain ⟨hce, hc1⟩ := HCI.out.erase j hjl
              have hxj : rd_T32 xs k1 = xs[j] := by rw [hj]; simp [rd_T32, List.getD_eq_getElem?_getD, List.getElem?_eq_getElem hjl]
              have hpx : takeP xs k1 = ⟨(q : Int), 7, (s.getD q z40).f3⟩ := by simp only [takeP, hia, if_true]; rw [hxj, hqe]
              have hE := Aside0.mk (show takeE xs k1 = 0 by simp [takeE, hia])
              have hL := Aside0.mk (show takeL xs k1 = xs.eraseIdx j by simp only [takeL, hia, if_true]; rw [show k1.toNat = j by omega])
              rw [hE.out, hL.out, hpx]
              have hqf : xs[j].f0 = (q : Int) := by rw [hqe]
              rw [hqf] at hce hc1
              have HAT := Aside0.mk (fun (W : World) (hW : Below w.heap.size w W) => at_step (Kd.C_below HC0.out hW) q hq)
              generalize (s.getD q z40).f3 = dq at HAT
              generalize (s.getD q z40).f2 = q2 at HAT
              generalize (s.getD q z40).f1 = q1 at HAT
              generalize (s.getD q z40).f0 = q0 at HAT
              have hfb : f (q : Int) ≤ 256 := by rw [HCI.out.eq]; have := HCB.out (q : Int); omega
              generalize xs.eraseIdx j = ys at hce
              rintro e w2 ⟨A5, c5, rfl, hl5, hu, hp⟩
              have HO2 := Aside0.mk ((One.post HB1.out hp).below (below_alloc (Below.refl _ _) (.cells #[.int .i64 (q : Int), .int .i64 7, .slice A5 dq.length c5] 32)))
              have HM2 := Aside0.mk ((HM1.out.net HN1.out hp.kept_).below (below_alloc (Below.refl _ _) (.cells #[.int .i64 (q : Int), .int .i64 7, .slice A5 dq.length c5] 32)))
              have HY2 := Aside0.mk (blk_new w2 (.cells #[.int .i64 (q : Int), .int .i64 7, .slice A5 dq.length c5] 32))
              have HR2 := Aside0.mk (Kd.R_below hu (below_alloc (Below.refl _ _) (.cells #[.int .i64 (q : Int), .int .i64 7, .slice A5 dq.length c5] 32)))
              have HCX0 := Aside0.mk hce
              have hlk := HM2.out.look (q : Int) (wfi_of (by omega) (by omega))
              obtain ⟨y, hy⟩ : ∃ y, y = f (q : Int) := ⟨_, rfl⟩
              rw [← hy] at hlk hfb HCX0 hc1
              have HCX := HCX0
              clear hp hu hia hce HCX0 hy hj hxj hpx hqf hqe hjl
              go_wp2_with (at_mapUpdate; refine imap_put rfl _ _ _ rfl rfl HM2.out (by omega) (q : Int) (y - 1) rfl rfl (wfi_of (by omega) (by omega)) (wfi_of (by omega) (by omega)) ?_; intro w3 hm3 hg3; obtain ⟨es, clock, hmp⟩ := HM2.out.map_; have HMX := Aside0.mk hm3; have HOX := Aside0.mk (HO2.out.stored_ hmp hg3 HWM.out); have HY3 := Aside0.mk (cells_stored HY2.out hmp hg3); have HR3 := Aside0.mk (R5_stored HR2.out hmp hg3); clear hm3 hg3 hmp)
              have hm4 := HMX.out.below (below_drew (Below.refl w3.heap.size w3))
              have hlk3 := hm4.look (q : Int) (wfi_of (by omega) (by omega))
              rw [show upd f (q : Int) (y - 1) (q : Int) = y - 1 by simp [upd]] at hlk3
              have b0 := (blk_cell HY3.out 0).trans rfl
              have b1 := (blk_cell HY3.out 1).trans rfl
              have b2 := (blk_cell HY3.out 2).trans rfl
              have g1 := conv_bytes c5 (Kd.C_below (Kd.R_reads' HR3.out).2.2 (below_drew (Below.refl _ _)))
              obtain ⟨ad4, A4, c4, ee, f0, f1, f2, f3, hl4, hC4⟩ := HAT.out _ (below_drew HOX.out.1)
              have g2 := conv_bytes c4 hC4
              obtain rfl := Option.some.inj ee
              have hql : (q : Int) < (s.length : Int) := by omega
              have hyd : decide (y - 1 < 0) = false := decide_eq_false (by omega)
              have hyd2 : decide (y < 1) = false := decide_eq_false (by omega)
              have HOX4 := Aside0.mk (HOX.out.below (below_drew (Below.refl _ _)))
              have HMX4 := Aside0.mk hm4
              clear hm4 hC4 hlk ee HOX HMX
              have HOX := HOX4
              have HMX := HMX4
              clear HOX4 HMX4
              go_region
              all_goals
                go_wp2_with fail
                obtain ⟨hbT, vT, hNT⟩ := HOX.out
                have hyl := hNT.le
                have t8 : decide (256 < (ys.length : Int)) = false := decide_eq_false (by omega)
                have t9 : decide (256 < ys.length) = false := decide_eq_false (by omega)
                have t10 : decide ((ys.length : Int) < 0) = false := decide_eq_false (by omega)
                have HNT := Aside0.mk hNT
                clear hNT hbT
                go_wp2_with (refine (len_calls HNT.out).mono ?_; rintro e w' ⟨rfl, hw'⟩; subst w')
                go_roundw
                case rel => exact ⟨i + 1, by go_num, by omega, ⟨ys, _, _, _, _, by omega, HCX.out, HOX.out, HMX.out⟩⟩
                case measure => simp [intOf]; omega
      · have t1 : decide ((i : Int) < (s.length : Int)) = false := decide_eq_false (by omega)
        have t2 : decide (i < s.length) = false := decide_eq_false hlt
        obtain ⟨hb, v, hN⟩ := HO.out
        have hxl := hN.le
        have t3 : decide ((xs.length : Int) ≤ 256) = true := decide_eq_true (by omega)
        have t4 : decide (xs.length ≤ 256) = true := decide_eq_true hxl
        have HN := Aside0.mk hN
        have HB2 := Aside0.mk hb
        clear hN hb
        go_wp2_with (refine (len_calls HN.out).mono ?_; rintro e w' ⟨rfl, hw'⟩; subst w')
        go_ret
        exact ⟨rfl, HB2.out⟩
end Go.Proofs.Ytgknafhpfghbjaa.X
