/- The reference's Take, Drop and Double, walked. -/
import Derived.Test.YtgknafhpfghbjaaRefAt
set_option linter.unusedVariables false
namespace Go.Proofs.Ytgknafhpfghbjaa.X
open Go.RowKit Go.Proofs.Ytgknafhpfghbjaa.B Go.Proofs.Ytgknafhpfghbjaa Go.Proofs.YtgknafhpfghbjaaW.PrintWords Go.Proofs.YtgknafhpfghbjaaW.PrintLast Go.Proofs.YtgknafhpfghbjaaW.PrintMore

/-- Two blocks are put aside. -/
def Okn2 (ok : Nat → Prop) (a b : Nat) : Nat → Prop := fun j => ok j ∧ j ≠ a ∧ j ≠ b
theorem stop_ {p : Prop} (h : Aside0 p) : p := h.out
set_option maxHeartbeats 4000000 in
theorem reftake_yes {w : World} {base g : Nat} {ok : Nat → Prop} {v : Value} {xs : List S32} (hN : Net 49 w base g ok v xs) (hbase : base ≤ w.heap.size) (hfresh : ∀ k, w.heap.size ≤ k → ok k) (i : Int) (hi : isAt xs i = true) :
    Calls Try.prog 18 #[.pointer (some ⟨g, 0, none⟩), .int .i64 i] w fun e w' => ∃ u : Value, e = .returned (.tuple #[.agg #[.int .i64 (rd_T32 xs i).f0, .int .i64 (rd_T32 xs i).f1, u], .int .i64 0]) ∧ Kd.R (Kd.int .u8) 5 w' base ok u (rd_T32 xs i).f2 ∧ NPost 49 w w' base g ok v (xs.eraseIdx i.toNat) := by
  have hA := refat_calls (hN.alloc (.cells #[.int .i64 0, .int .i64 0, .slice none 0 0] 32)) (Nat.le_trans hbase (by simp)) i
  have hp : takeP xs i = rd_T32 xs i := by simp [takeP, hi]
  rw [hp, hi] at hA
  have HA := Aside0.mk hA
  obtain ⟨h0, h1⟩ := isAt_true.1 hi
  have hle := hN.le
  have hlt := hN.lt
  obtain ⟨k, rfl⟩ : ∃ k : Nat, i = (k : Int) := ⟨i.toNat, by omega⟩
  obtain ⟨A, c, hv, hlc, hrows⟩ := hN.rows
  have hk : k < xs.length := by omega
  obtain ⟨hs1, hs2⟩ := cut_runs A xs.length c k hk hlc
  have hyl : (xs.eraseIdx k).length ≤ 256 ∧ (∀ y ∈ xs.eraseIdx k, y ∈ xs) ∧ xs.take k ++ xs.drop (k + 1) = xs.eraseIdx k ∧ (xs.take k).length = k := ⟨by rw [List.length_eraseIdx_of_lt (by omega)]; omega, fun y hy => List.mem_of_mem_eraseIdx hy, (List.eraseIdx_eq_take_drop_succ xs k).symm, by rw [List.length_take]; omega⟩
  rw [show ((k : Int)).toNat = k from Int.toNat_natCast k]
  have HT := Aside0.mk (cut_take hrows (i := k) (by omega))
  have HD := Aside0.mk (cut_drop hrows (i := k + 1) (c := c) (by omega) hlc)
  generalize xs.eraseIdx k = ys at hyl ⊢
  generalize xs.take k = xt at hyl HT
  generalize xs.drop (k + 1) = xd at hyl HD
  generalize (if c = k + 1 then A else A.map (·.add ((k + 1) * 3))) = A2 at hs2 HD
  have HYL := Aside0.mk hyl
  have HN := Aside0.mk hN
  have HF := Aside0.mk hfresh
  subst hv
  clear hN hA hp hi hyl hrows hfresh
  generalize rd_T32 xs (k : Int) = x at HA ⊢
  have hb0 := Aside0.mk (below_alloc (Below.refl w.heap.size w) (.cells #[.int .i64 0, .int .i64 0, .slice none 0 0] 32))
  have hx4 := Aside0.mk (blk_new w (.cells #[.int .i64 0, .int .i64 0, .slice none 0 0] 32))
  go_enter Try.func18, Try.ntmps18
  go_wp2_with fail
  refine HA.out.mono ?_
  rintro e w1 ⟨Au, cu, rfl, hlu, hu, hb1⟩
  have HB1 := Aside0.mk (below_step hb0.out hb1)
  have hz1 : w.heap.size < w1.heap.size := by have := hb1.size; simp at this; omega
  have HU1 := Aside0.mk (Kd.R_lower (base' := w.heap.size) hu (by simp))
  have HX4 := Aside0.mk (blk_alloc (blk_below hx4.out hb1) (.cells #[.int .i64 x.f0, .int .i64 x.f1, .slice Au x.f2.length cu] 32))
  have HX6 := Aside0.mk (blk_new w1 (.cells #[.int .i64 x.f0, .int .i64 x.f1, .slice Au x.f2.length cu] 32))
  have HBW := Aside0.mk (below_alloc HB1.out (.cells #[.int .i64 x.f0, .int .i64 x.f1, .slice Au x.f2.length cu] 32))
  have HUW := Aside0.mk (Kd.R_below HU1.out (below_alloc (Below.refl _ _) (.cells #[.int .i64 x.f0, .int .i64 x.f1, .slice Au x.f2.length cu] 32)))
  have HOK := Aside0.mk (show ∀ k, (w1.alloc (.cells #[.int .i64 x.f0, .int .i64 x.f1, .slice Au x.f2.length cu] 32)).heap.size ≤ k → (ok k ∧ k ≠ w.heap.size ∧ k ≠ w1.heap.size) from fun j hj => by simp at hj; exact ⟨HF.out j (by omega), by omega, by omega⟩)
  have HE := Aside0.mk (show ∀ j, (ok j ∧ j < w.heap.size) → (ok j ∧ j ≠ w.heap.size ∧ j ≠ w1.heap.size) ∧ j < w.heap.size from fun j hj => ⟨⟨hj.1, by omega, by omega⟩, hj.2⟩)
  clear hb1 hu hb0 hx4 HU1
  have hw1 : IntKind.i64.wrap ((k : Int) + 1) = (k : Int) + 1 := IntWalk.i64_in _ (by omega)
  go_wp2_with (first | ((with_reducible refine gate_dst (N := 18) rfl ?_); refine Kd.R_lit k32 (w0 := w) base 32 ?hg (N := 18) ?hd (xs := ([] : List S32)) (inner := []) (ok := fun j => ok j ∧ j ≠ w.heap.size ∧ j ≠ w1.heap.size) (okp := fun _ => False) ?hr ?hp (fun _ hk => hk.elim) (HOK.out _ (Nat.le_refl _)) (HBW.out.mono hbase) (Nat.le_trans hbase HBW.out.size) (by simp) ?_; (case hd => rfl); (case hg => rfl); (case hr => first | (go_simp; done) | (go_simp; rfl)); (case hp => exact (Reps.none _ _)); intro l1 w4 ho hb hg hnew; have HL1 := Aside0.mk ho; have HBW4 := Aside0.mk (HBW.out.grown hg HBW.out.size (by simp)); have hcell4 := (HN.out.below HBW4.out).cell; have HNEW := Aside0.mk (show ∃ b, l1.ownBlock = some b ∧ w.heap.size ≤ b from by obtain ⟨b, h1, h2⟩ := hnew; exact ⟨b, h1, Nat.le_trans HBW.out.size h2⟩); have HX44 := Aside0.mk (blk_grown HX4.out hg (by simp)); have HX64 := Aside0.mk (blk_grown HX6.out hg (by simp)); have HUW4 := Aside0.mk (Kd.R_grown HUW.out hg (fun _ _ => by simp)); have HOK4 := Aside0.mk (fun j (hj : w4.heap.size ≤ j) => HOK.out j (Nat.le_trans hg.size hj)); clear ho hb hg hnew HBW HX4 HX6 HUW HOK) | ((with_reducible refine gate_builtin (b := .append) (xs := #[.tmp 19, .tmp 25]) rfl ?_); at_builtin; refine ref_append (w := w) (base := base) (okL := fun j => ok j ∧ j ≠ w.heap.size ∧ j ≠ w1.heap.size) (okE := fun j => ok j ∧ j < w.heap.size) rfl (.tmp 19) (.tmp 25) rfl l1 [] xt A k c rfl rfl HL1.out HNEW.out HT.out HE.out HBW4.out hbase HOK4.out (by simp; omega) ?_; intro l2 w5 ho hb hg hnew; rw [List.nil_append] at ho; have HL2 := Aside0.mk ho; have HBW5 := Aside0.mk hb; have hcell5 := (HN.out.below hb).cell; have HNEW5 := Aside0.mk hnew; have HX45 := Aside0.mk (blk_okL HL1.out hg HX44.out (by simp)); have HUW5 := Aside0.mk (R5_grown HL1.out hg HUW4.out); have HX65 := Aside0.mk (blk_okL HL1.out hg HX64.out (by simp)); have HOK5 := Aside0.mk (fun j (hj : w5.heap.size ≤ j) => HOK4.out j (Nat.le_trans hg.size hj)); clear ho hb hg hnew) | ((with_reducible refine gate_builtin (b := .append) (xs := #[.tmp 28, .tmp 35]) rfl ?_); refine stop_ ?_))
  refine Aside0.mk ?_
  at_builtin
  refine ref_append (w := w) (base := base) (okL := fun j => ok j ∧ j ≠ w.heap.size ∧ j ≠ w1.heap.size) (okE := fun j => ok j ∧ j < w.heap.size) rfl (.tmp 28) (.tmp 35) rfl l2 xt xd A2 (xs.length - (k + 1)) (c - (k + 1)) rfl rfl HL2.out HNEW5.out HD.out HE.out HBW5.out hbase HOK5.out (by have := HYL.out.2.2.2; omega) ?_
  intro l3 w6 ho hb hg hnew
  rw [HYL.out.2.2.1] at ho
  obtain ⟨A3, c3, hv3, hl3, _⟩ := Kd.R_reads ho
  subst hv3
  have HL3 := Aside0.mk ho
  have HBW6 := Aside0.mk hb
  have HNEW6 := Aside0.mk hnew
  have HX46 := Aside0.mk (blk_okL HL2.out hg HX45.out (by simp))
  have HX66 := Aside0.mk (blk_okL HL2.out hg HX65.out (by simp))
  have hbx := (HN.out.below hb).box
  have hcell6 := (blk_cell hbx 0).trans rfl
  have hfree6 := blk_frozen hbx 0
  have HUW6 := Aside0.mk (R5_grown HL2.out hg HUW5.out)
  have hg4 : ¬ g = w.heap.size := by omega
  have hg6 : ¬ g = w1.heap.size := by omega
  clear ho hb hg hnew hbx
  have HP := Aside0.mk (Net.post_new (ok := Okn2 ok w.heap.size w1.heap.size) (HN.out.bound.mono (fun j hj => ⟨hj.1, by omega, by omega⟩)) hbase HBW6.out HL3.out HNEW6.out HYL.out.1 HYL.out.2.1)
  have g6 := blk_far HX66.out (p := ⟨g, 0, none⟩) (by simp; omega) (.slice A3 ys.length c3)
  have g4 := blk_far HX46.out (p := ⟨g, 0, none⟩) (by simp; omega) (.slice A3 ys.length c3)
  have a0 := (blk_cell g6 0).trans rfl
  have a1 := (blk_cell g6 1).trans rfl
  have a2 := (blk_cell g6 2).trans rfl
  have b0 := (blk_cell g4 0).trans rfl
  have b1 := (blk_cell g4 1).trans rfl
  have b2 := (blk_cell g4 2).trans rfl
  have f0 := blk_frozen g4 0
  have f1 := blk_frozen g4 1
  have f2 := blk_frozen g4 2
  have HU6 := Aside0.mk (Kd.R_set HUW6.out (HN.out.below HBW6.out).box (by simp [Kd.int, Kd.scalar]) 0 (.slice A3 ys.length c3))
  go_wp2_with fail
  refine bodyPost_ret (v := .tuple #[.agg #[.int .i64 x.f0, .int .i64 x.f1, .slice Au x.f2.length cu], .int .i64 0]) (by simp [results, Try.results18, go_sem, *]) rfl ⟨_, rfl, ?_, ?_⟩
  · have hU := Kd.R_set (Kd.R_set (Kd.R_set HU6.out g4 (by simp [Kd.int, Kd.scalar]) 0 (.int .i64 x.f0)) (blk_set g4 0 (.int .i64 x.f0)) (by simp [Kd.int, Kd.scalar]) 1 (.int .i64 x.f1)) (blk_set (blk_set g4 0 (.int .i64 x.f0)) 1 (.int .i64 x.f1)) (by simp [Kd.int, Kd.scalar]) 2 (.slice Au x.f2.length cu)
    exact Kd.R_lower (Kd.R_mono (Kd.R_bound hU) (fun j hj => HF.out j hj.2.1)) hbase
  · have hok : ∀ j, Okn2 ok w.heap.size w1.heap.size j → j ≠ w.heap.size := fun j hj => hj.2.1
    exact (((HP.out.set (p := ⟨w.heap.size, 0, none⟩) (Nat.le_refl _) hbase hlt hok _).set (p := ⟨w.heap.size, 1, none⟩) (Nat.le_refl _) hbase hlt hok _).set (p := ⟨w.heap.size, 2, none⟩) (Nat.le_refl _) hbase hlt hok _).mono (fun _ hk => hk.1)
set_option maxHeartbeats 4000000 in
theorem reftake_no {w : World} {base g : Nat} {ok : Nat → Prop} {v : Value} {xs : List S32} (hN : Net 49 w base g ok v xs) (hbase : base ≤ w.heap.size) (i : Int) (hi : isAt xs i = false) :
    Calls Try.prog 18 #[.pointer (some ⟨g, 0, none⟩), .int .i64 i] w fun e w' => ∃ A c, e = .returned (.tuple #[.agg #[.int .i64 (takeP xs i).f0, .int .i64 (takeP xs i).f1, .slice A (takeP xs i).f2.length c], .int .i64 11]) ∧ (takeP xs i).f2.length ≤ c ∧ Kd.R (Kd.int .u8) 5 w' w.heap.size (fun _ => True) (.slice A (takeP xs i).f2.length c) (takeP xs i).f2 ∧ Below w.heap.size w w' := by
  have hA := refat_calls (hN.alloc (.cells #[.int .i64 0, .int .i64 0, .slice none 0 0] 32)) (Nat.le_trans hbase (by simp)) i
  rw [hi] at hA
  have HA := Aside0.mk hA
  have hb0 := Aside0.mk (below_alloc (Below.refl w.heap.size w) (.cells #[.int .i64 0, .int .i64 0, .slice none 0 0] 32))
  have hx4 := Aside0.mk (blk_new w (.cells #[.int .i64 0, .int .i64 0, .slice none 0 0] 32))
  clear hA hN hi
  generalize takeP xs i = x at HA ⊢
  go_enter Try.func18, Try.ntmps18
  go_wp2_with fail
  refine HA.out.mono ?_
  rintro e w1 ⟨Au, cu, rfl, hlu, hu, hb1⟩
  have HB1 := Aside0.mk (below_step hb0.out hb1)
  have hz1 : w.heap.size < w1.heap.size := by have := hb1.size; simp at this; omega
  have HU1 := Aside0.mk (Kd.R_lower (base' := w.heap.size) hu (by simp))
  have g4 := blk_alloc (blk_below hx4.out hb1) (.cells #[.int .i64 x.f0, .int .i64 x.f1, .slice Au x.f2.length cu] 32)
  have g6 := blk_new w1 (.cells #[.int .i64 x.f0, .int .i64 x.f1, .slice Au x.f2.length cu] 32)
  have b0 := (blk_cell g4 0).trans rfl
  have b1 := (blk_cell g4 1).trans rfl
  have b2 := (blk_cell g4 2).trans rfl
  have a0 := (blk_cell g6 0).trans rfl
  have a1 := (blk_cell g6 1).trans rfl
  have a2 := (blk_cell g6 2).trans rfl
  have f0 := blk_frozen g4 0
  have f1 := blk_frozen g4 1
  have f2 := blk_frozen g4 2
  have g5 := blk_below hx4.out hb1
  have c0 := (blk_cell g5 0).trans rfl
  have c1 := (blk_cell g5 1).trans rfl
  have c2 := (blk_cell g5 2).trans rfl
  have e0 := blk_frozen g5 0
  have e1 := blk_frozen g5 1
  have e2 := blk_frozen g5 2
  clear hb1 hu hb0 hx4
  go_wp2_with fail
  refine bodyPost_ret (v := .tuple #[.agg #[.int .i64 x.f0, .int .i64 x.f1, .slice Au x.f2.length cu], .int .i64 11]) (by simp [results, Try.results18, go_sem, *]) rfl ⟨_, _, rfl, hlu, ?_, ?_⟩
  · exact Kd.R_below (Kd.R_set (Kd.R_set (Kd.R_set HU1.out g5 (by simp [Kd.int, Kd.scalar]) 0 _) (blk_set g5 0 _) (by simp [Kd.int, Kd.scalar]) 1 _) (blk_set (blk_set g5 0 _) 1 _) (by simp [Kd.int, Kd.scalar]) 2 _) (below_alloc (Below.refl _ _) _)
  · exact below_alloc (below_set (below_set (below_set HB1.out (Nat.le_refl _)) (Nat.le_refl _)) (Nat.le_refl _)) _
theorem reftake_calls {w : World} {base g : Nat} {ok : Nat → Prop} {v : Value} {xs : List S32} (hN : Net 49 w base g ok v xs) (hbase : base ≤ w.heap.size) (hfresh : ∀ k, w.heap.size ≤ k → ok k) (i : Int) :
    Calls Try.prog 18 #[.pointer (some ⟨g, 0, none⟩), .int .i64 i] w fun e w' => ∃ A c, e = .returned (.tuple #[.agg #[.int .i64 (takeP xs i).f0, .int .i64 (takeP xs i).f1, .slice A (takeP xs i).f2.length c], .int .i64 (takeE xs i)]) ∧ (takeP xs i).f2.length ≤ c ∧ Kd.R (Kd.int .u8) 5 w' base ok (.slice A (takeP xs i).f2.length c) (takeP xs i).f2 ∧ NPost 49 w w' base g ok v (takeL xs i) := by
  cases hi : isAt xs i with
  | true =>
    simp only [takeP, takeE, takeL, hi, if_true]
    refine (reftake_yes hN hbase hfresh i hi).mono ?_
    rintro e w' ⟨u, rfl, hu, hp⟩
    obtain ⟨A, c, rfl, hl, _⟩ := Kd.R_reads hu
    exact ⟨A, c, rfl, hl, hu, hp⟩
  | false =>
    simp only [takeE, takeL, hi, Bool.false_eq_true, if_false]
    refine (reftake_no hN hbase i hi).mono ?_
    rintro e w' ⟨A, c, rfl, hl, hu, hb⟩
    exact ⟨A, c, rfl, hl, Kd.R_lower (Kd.R_mono (Kd.R_bound hu) (fun j hj => hfresh j hj.2.1)) hbase, hN.post_same hbase hb⟩
set_option maxHeartbeats 1000000 in
theorem refdrop_calls {w : World} {base g : Nat} {ok : Nat → Prop} {v : Value} {xs : List S32} (hN : Net 49 w base g ok v xs) (hbase : base ≤ w.heap.size) (hfresh : ∀ k, w.heap.size ≤ k → ok k) (i : Int) :
    Calls Try.prog 19 #[.pointer (some ⟨g, 0, none⟩), .int .i64 i] w fun e w' => e = .returned (.int .i64 (takeE xs i)) ∧ NPost 49 w w' base g ok v (takeL xs i) := by
  have HN := Aside0.mk hN
  have HF := Aside0.mk hfresh
  clear hN hfresh
  go_enter Try.func19, Try.ntmps19
  go_wp2_with fail
  refine (reftake_calls HN.out hbase HF.out i).mono ?_
  generalize takeP xs i = p
  rintro e w1 ⟨A, c, rfl, hl, hu, hp⟩
  have HP := Aside0.mk (hp.below hbase (below_alloc (Below.refl _ _) (.cells #[.int .i64 p.f0, .int .i64 p.f1, .slice A p.f2.length c] 32)))
  clear hp hu
  go_wp2
  go_ret
  exact ⟨rfl, HP.out⟩
theorem dbl_send {xs : List S32} (i : Int) (hi : isAt xs i = true) (hs : ∀ x ∈ xs, x.f2.length ≤ 32768) : sendE xs (rd_T32 xs i).f2 = dblE xs i ∧ sendL xs (rd_T32 xs i).f0 (rd_T32 xs i).f1 (rd_T32 xs i).f2 = dblL xs i := by
  have h := hs _ (rd_mem hi)
  have h2 : ¬ 32768 < (rd_T32 xs i).f2.length := by omega
  simp only [sendE, sendL, dblE, dblL, hi, if_true, if_neg h2]
  exact ⟨trivial, trivial⟩
theorem NPost.after {t : Nat} {w w1 w' : World} {base g : Nat} {ok : Nat → Prop} {v : Value} {xs : List S32} (hbase : base ≤ w.heap.size) (hg : g < w.heap.size) (hv : ∀ k, v.ownBlock = some k → k < w.heap.size) (hb : Below w.heap.size w w1) (h : NPost t w1 w' base g ok v xs) : NPost t w w' base g ok v xs := by
  obtain ⟨v1, h1, h2, h3, h4⟩ := h
  refine ⟨v1, h1, (hb.mono hbase).trans h2, (Kept.of_below hb _).then_ h3 (fun k hk => .inl hk), ?_⟩
  rcases h4 with h4 | ⟨b, h4, h5⟩
  · exact .inl h4
  · exact .inr ⟨b, h4, Nat.le_trans hb.size h5⟩
set_option maxHeartbeats 1000000 in
theorem refdouble_calls {w : World} {base g : Nat} {ok : Nat → Prop} {v : Value} {xs : List S32} (hN : Net 49 w base g ok v xs) (hbase : base ≤ w.heap.size) (hfresh : ∀ k, w.heap.size ≤ k → ok k) (i : Int) :
    Calls Try.prog 20 #[.pointer (some ⟨g, 0, none⟩), .int .i64 i] w fun e w' => e = .returned (.int .i64 (dblE xs i)) ∧ NPost 49 w w' base g ok v (dblL xs i) := by
  have HN := Aside0.mk hN
  have HF := Aside0.mk hfresh
  cases hi : isAt xs i with
  | false =>
    have he : dblE xs i = 11 := by simp [dblE, hi]
    have hl : dblL xs i = xs := by simp [dblL, hi]
    have hA := refat_calls hN hbase i
    rw [hi] at hA
    have HA := Aside0.mk hA
    rw [he, hl]
    clear hN hfresh hA he hl hi
    generalize takeP xs i = x at HA
    go_enter Try.func20, Try.ntmps20
    go_wp2_with fail
    refine HA.out.mono ?_
    rintro e w1 ⟨Au, cu, rfl, hlu, hu, hb1⟩
    have HP := Aside0.mk (HN.out.post_same hbase (below_alloc hb1 (.cells #[.int .i64 x.f0, .int .i64 x.f1, .slice Au x.f2.length cu] 32)))
    clear hu hb1
    go_wp2
    go_ret
    exact ⟨rfl, HP.out⟩
  | true =>
    obtain ⟨he, hl⟩ := dbl_send i hi hN.small
    have hA := refat_calls hN hbase i
    have hp : takeP xs i = rd_T32 xs i := by simp [takeP, hi]
    have hs := hN.small _ (rd_mem hi)
    rw [hi, hp] at hA
    have HA := Aside0.mk hA
    rw [← he, ← hl]
    clear hN hfresh hA he hl hi hp
    generalize rd_T32 xs i = x at HA hs ⊢
    go_enter Try.func20, Try.ntmps20
    go_wp2_with fail
    refine HA.out.mono ?_
    rintro e w1 ⟨Au, cu, rfl, hlu, hu, hb1⟩
    have HB := Aside0.mk (below_alloc hb1 (.cells #[.int .i64 x.f0, .int .i64 x.f1, .slice Au x.f2.length cu] 32))
    have HU := Aside0.mk (Kd.R_below hu (below_alloc (Below.refl _ _) (.cells #[.int .i64 x.f0, .int .i64 x.f1, .slice Au x.f2.length cu] 32)))
    clear hu hb1
    go_wp2_with fail
    obtain ⟨_, _, he', _, hCu⟩ := Kd.R_reads HU.out
    injection he' with h1 h2 h3
    subst h1
    refine (refsend_calls (HN.out.below HB.out) (Nat.le_trans hbase HB.out.size) (fun k hk => HF.out k (Nat.le_trans HB.out.size hk)) x.f0 x.f1 Au cu x.f2 (by omega) hlu hCu).mono ?_
    rintro e w2 ⟨rfl, hp⟩
    have HP := Aside0.mk (hp.after hbase HN.out.lt (fun k hk => (HN.out.row.own k hk).2.2.1) HB.out)
    clear hp
    go_wp2
    go_ret
    exact ⟨rfl, HP.out⟩
end Go.Proofs.Ytgknafhpfghbjaa.X
