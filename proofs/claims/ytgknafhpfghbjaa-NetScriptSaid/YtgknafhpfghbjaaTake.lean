/- Take of the net, walked. -/
import Derived.Test.YtgknafhpfghbjaaAt
set_option linter.unusedVariables false
namespace Go.Proofs.Ytgknafhpfghbjaa.X
open Go.RowKit Go.Proofs.Ytgknafhpfghbjaa.B Go.Proofs.Ytgknafhpfghbjaa Go.Proofs.YtgknafhpfghbjaaW.PrintWords Go.Proofs.YtgknafhpfghbjaaW.PrintLast Go.Proofs.YtgknafhpfghbjaaW.PrintMore

theorem NPost.mono {t : Nat} {w w' : World} {base g : Nat} {ok ok' : Nat → Prop} {v : Value} {xs : List S32} (h : NPost t w w' base g ok v xs) (hok : ∀ k, ok k → ok' k) : NPost t w w' base g ok' v xs := by
  obtain ⟨v1, h1, h2, h3, h4⟩ := h
  exact ⟨v1, h1.mono hok, h2, h3, h4⟩
theorem NPost.set {t : Nat} {w w' : World} {base g : Nat} {ok : Nat → Prop} {v : Value} {xs : List S32} (h : NPost t w w' base g ok v xs) {p : Addr} (hp : w.heap.size ≤ p.block) (hbase : base ≤ w.heap.size) (hg : g < w.heap.size) (hok : ∀ k, ok k → k ≠ p.block) (u : Value) : NPost t w (w'.setCell p u) base g ok v xs := by
  obtain ⟨v1, h1, h2, h3, h4⟩ := h
  exact ⟨v1, h1.step (Below.heap_setCell w' p u g (by omega)) (fun k hk _ => Below.heap_setCell w' p u k (hok k hk)), h2.setCell (Nat.le_trans hbase hp) u, h3.setCell (.inr hp) u, h4⟩
/-- The blocks from w's size on, n of them, are put aside. -/
def Okn (w : World) (n : Nat) (ok : Nat → Prop) : Nat → Prop := fun k => ok k ∧ (k < w.heap.size ∨ w.heap.size + n ≤ k)
theorem Net.aside {t : Nat} {w : World} {base g : Nat} {ok : Nat → Prop} {v : Value} {xs : List S32} (h : Net t w base g ok v xs) (n : Nat) : Net t w base g (Okn w n ok) v xs := h.bound.mono (fun _ hk => ⟨hk.1, .inl hk.2.2.1⟩)
set_option maxHeartbeats 4000000 in
theorem take_no {w : World} {base g : Nat} {ok : Nat → Prop} {v : Value} {xs : List S32} (hN : Net 51 w base g ok v xs) (hbase : base ≤ w.heap.size) (i : Int) (hi : isAt xs i = false) :
    Calls Try.prog 11 #[.pointer (some ⟨g, 0, none⟩), .int .i64 i] w fun e w' => e = .returned (.tuple #[.agg #[.int .i64 0, .int .i64 0, .slice none 0 0], .int .i64 11]) ∧ Below w.heap.size w w' := by
  have hc := hN.cell
  have hlt := hN.lt
  obtain ⟨A, c, hv, hlc, _⟩ := hN.row.reads
  subst hv
  have hle := hN.le
  clear hN
  rcases isAt_false.1 hi with h | ⟨h0, h1⟩
  · have t1 : decide (i < 0) = true := decide_eq_true h
    clear hi
    go_enter Try.func11, Try.ntmps11
    go_wp2
    exact bodyPost_ret (v := .tuple #[.agg #[.int .i64 0, .int .i64 0, .slice none 0 0], .int .i64 11]) (by simp [results, Try.results11, go_sem, *]) rfl ⟨rfl, (by repeat (first | exact Below.refl _ _ | (refine below_set ?_ (by first | exact Nat.le_refl _ | (simp; done) | (simp; omega))) | apply below_alloc))⟩
  · have t1 : decide (i < 0) = false := decide_eq_false (by omega)
    have t2 : decide ((xs.length : Int) ≤ i) = true := decide_eq_true h1
    clear hi
    go_enter Try.func11, Try.ntmps11
    go_wp2
    exact bodyPost_ret (v := .tuple #[.agg #[.int .i64 0, .int .i64 0, .slice none 0 0], .int .i64 11]) (by simp [results, Try.results11, go_sem, *]) rfl ⟨rfl, (by repeat (first | exact Below.refl _ _ | (refine below_set ?_ (by first | exact Nat.le_refl _ | (simp; done) | (simp; omega))) | apply below_alloc))⟩
set_option maxHeartbeats 4000000 in
theorem take_yes {w : World} {base g : Nat} {ok : Nat → Prop} {v : Value} {xs : List S32} (hN : Net 51 w base g ok v xs) (hbase : base ≤ w.heap.size) (hfresh : ∀ k, w.heap.size ≤ k → ok k) (i : Int) (hi : isAt xs i = true) :
    Calls Try.prog 11 #[.pointer (some ⟨g, 0, none⟩), .int .i64 i] w fun e w' => ∃ u : Value, e = .returned (.tuple #[.agg #[.int .i64 (rd_T32 xs i).f0, .int .i64 (rd_T32 xs i).f1, u], .int .i64 0]) ∧ Kd.R (Kd.int .u8) 5 w' base ok u (rd_T32 xs i).f2 ∧ NPost 51 w w' base g ok v (xs.eraseIdx i.toNat) := by
  obtain ⟨h0, h1⟩ := isAt_true.1 hi
  have hs := hN.small _ (rd_mem hi)
  have hc := (hN.alloc (.cells #[.int .i64 0, .int .i64 0, .slice none 0 0] 32)).cell
  have hlt := hN.lt
  have hle := hN.le
  obtain ⟨ad, c, u, hv, e0, e1, e2, hu⟩ := (hN.alloc (.cells #[.int .i64 0, .int .i64 0, .slice none 0 0] 32)).at_ i h0 h1
  have HU := Aside0.mk hu
  obtain ⟨A1, c1, hu1, hl1, hC1⟩ := Kd.R_reads hu
  subst hu1
  obtain ⟨A', c', hv', hcc, _⟩ := hN.row.reads
  rw [hv] at hv'
  injection hv' with hv1 hv2 hv3
  subst hv3
  clear hv1 hv2
  obtain ⟨k, rfl⟩ : ∃ k : Nat, i = (k : Int) := ⟨i.toNat, by omega⟩
  obtain ⟨A2, hs1, hs2, hrun⟩ := take_run k (by omega) (by omega) ad c hv hcc
  have hyl : (xs.eraseIdx k).length ≤ 256 ∧ ∀ y ∈ xs.eraseIdx k, y ∈ xs := ⟨by rw [List.length_eraseIdx_of_lt (by omega)]; omega, fun y hy => List.mem_of_mem_eraseIdx hy⟩
  rw [show ((k : Int)).toNat = k from Int.toNat_natCast k]
  generalize xs.eraseIdx k = ys at hrun hyl ⊢
  have HYL := Aside0.mk hyl
  have HRUN := Aside0.mk hrun
  have HN := Aside0.mk (hN.aside 2)
  have HF := Aside0.mk hfresh
  have HV := Aside0.mk hv
  subst hv
  clear hN hu hC1 hrun hfresh hyl
  generalize rd_T32 xs (k : Int) = x at e0 e1 e2 hs HU hl1 ⊢
  have t1 : decide ((k : Int) < 0) = false := decide_eq_false (by omega)
  have t2 : decide ((xs.length : Int) ≤ (k : Int)) = false := decide_eq_false (by omega)
  have t3 : decide (xs.length ≤ k) = false := decide_eq_false (by omega)
  have h2 : k < xs.length := by omega
  simp only [Int.toNat_natCast] at e0 e1 e2
  clear hi
  go_enter Try.func11, Try.ntmps11
  go_wp2_with fail
  have hb3 : Below w.heap.size w ((w.alloc (.cells #[.int .i64 0, .int .i64 0, .slice none 0 0] 32)).alloc (.cells #[.int .i64 x.f0, .int .i64 x.f1, .slice A1 x.f2.length c1] 32)) := below_alloc (below_alloc (Below.refl _ _) _) _
  have hx4 := blk_alloc (blk_new w (.cells #[.int .i64 0, .int .i64 0, .slice none 0 0] 32)) (.cells #[.int .i64 x.f0, .int .i64 x.f1, .slice A1 x.f2.length c1] 32)
  have hx6 := blk_new (w.alloc (.cells #[.int .i64 0, .int .i64 0, .slice none 0 0] 32)) (.cells #[.int .i64 x.f0, .int .i64 x.f1, .slice A1 x.f2.length c1] 32)
  have hs2' : (w.alloc (.cells #[.int .i64 0, .int .i64 0, .slice none 0 0] 32)).heap.size = w.heap.size + 1 := by simp
  rw [hs2'] at hx6
  have HU3 := Aside0.mk (Kd.R_below HU.out (below_alloc (Below.refl _ _) (.cells #[.int .i64 x.f0, .int .i64 x.f1, .slice A1 x.f2.length c1] 32)))
  have hz3 : ((w.alloc (.cells #[.int .i64 0, .int .i64 0, .slice none 0 0] 32)).alloc (.cells #[.int .i64 x.f0, .int .i64 x.f1, .slice A1 x.f2.length c1] 32)).heap.size = w.heap.size + 2 := by simp
  clear e0 e1 e2 hc hs2' HU
  generalize (w.alloc (.cells #[.int .i64 0, .int .i64 0, .slice none 0 0] 32)).alloc (.cells #[.int .i64 x.f0, .int .i64 x.f1, .slice A1 x.f2.length c1] 32) = W3 at hb3 hx4 hx6 HU3 hz3 ⊢
  have hc3 := (HN.out.below hb3).cell
  have HB3 := Aside0.mk hb3
  have HX4 := Aside0.mk hx4
  have HX6 := Aside0.mk hx6
  have HZ3 := Aside0.mk hz3
  clear hb3 hx4 hx6 hz3
  have hw1 : IntKind.i64.wrap ((k : Int) + 1) = (k : Int) + 1 := IntWalk.i64_in _ (by omega)
  have tk1 : True := trivial
  go_region_law (clear tk1; obtain ⟨v1, w2, hr, hR, hg, hat⟩ := HRUN.out W3.drew 47 base (Okn w 2 ok) (HN.out.below (below_step HB3.out (below_drew (Below.refl _ _)))).row (Nat.le_trans hbase (below_step HB3.out (below_drew (Below.refl _ _))).size) (fun k hk => ⟨HF.out k (Nat.le_trans (below_step HB3.out (below_drew (Below.refl _ _))).size hk), .inr (by have h1 : W3.heap.size ≤ k := hk; have := HZ3.out; omega)⟩); obtain ⟨A3, c3, hv3, hl3, _⟩ := PRow.reads hR; subst hv3; refine step_of_run (by rfl) (.tmp 33) (.tmp 40) 47 rfl rfl rfl hr ?_; have hbx := blk_grown (HN.out.below (below_step HB3.out (below_drew (Below.refl _ _)))).box hg (by simp); have hcell2 := (blk_cell hbx 0).trans rfl; have hfree2 := blk_frozen hbx 0; have h6 := blk_grown (blk_drew HX6.out) hg (by simp); have h4 := blk_grown (blk_drew HX4.out) hg (by simp); have HX4' := Aside0.mk h4; have HX6' := Aside0.mk h6; have HBX := Aside0.mk hbx; have HP := Aside0.mk (HN.out.post_cut hbase (below_step HB3.out (below_drew (Below.refl _ _))) hR hg hat HYL.out.1 HYL.out.2); have HU4 := Aside0.mk (Kd.R_set (Kd.R_grown (Kd.R_below HU3.out (below_drew (Below.refl _ _))) hg (fun _ _ => by simp)) hbx (by simp [Kd.int, Kd.scalar]) 0 (.slice A3 ys.length c3)); clear hr hR hg hat hbx h4 h6)
  all_goals
    go_simp
    have g6 := blk_far HX6'.out (p := ⟨g, 0, none⟩) (by simp; omega) (.slice A3 ys.length c3)
    have g4 := blk_far HX4'.out (p := ⟨g, 0, none⟩) (by simp; omega) (.slice A3 ys.length c3)
    have a0 := (blk_cell g6 0).trans rfl
    have a1 := (blk_cell g6 1).trans rfl
    have a2 := (blk_cell g6 2).trans rfl
    have b0 := (blk_cell g4 0).trans rfl
    have b1 := (blk_cell g4 1).trans rfl
    have b2 := (blk_cell g4 2).trans rfl
    have f0 := blk_frozen g4 0
    have f1 := blk_frozen g4 1
    have f2 := blk_frozen g4 2
    go_wp2
    refine bodyPost_ret (v := .tuple #[.agg #[.int .i64 x.f0, .int .i64 x.f1, .slice A1 x.f2.length c1], .int .i64 0]) (by simp [results, Try.results11, go_sem, *]) rfl ⟨_, rfl, ?_, ?_⟩
    · exact Kd.R_set (Kd.R_set (Kd.R_set HU4.out g4 (by simp [Kd.int, Kd.scalar]) 0 _) (blk_set g4 0 _) (by simp [Kd.int, Kd.scalar]) 1 _) (blk_set (blk_set g4 0 _) 1 _) (by simp [Kd.int, Kd.scalar]) 2 _
    · have hok : ∀ j, Okn w 2 ok j → j ≠ w.heap.size := fun j hj => by have := hj.2; omega
      exact (((HP.out.set (p := ⟨w.heap.size, 0, none⟩) (Nat.le_refl _) hbase hlt hok _).set (p := ⟨w.heap.size, 1, none⟩) (Nat.le_refl _) hbase hlt hok _).set (p := ⟨w.heap.size, 2, none⟩) (Nat.le_refl _) hbase hlt hok _).mono (fun _ hk => hk.1)
end Go.Proofs.Ytgknafhpfghbjaa.X
