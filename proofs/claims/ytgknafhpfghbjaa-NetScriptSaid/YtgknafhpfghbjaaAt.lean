/- At, Take, Drop and Double of the net, walked. -/
import Derived.Test.YtgknafhpfghbjaaSend
set_option linter.unusedVariables false
namespace Go.Proofs.Ytgknafhpfghbjaa.X
open Go.RowKit Go.Proofs.Ytgknafhpfghbjaa.B Go.Proofs.Ytgknafhpfghbjaa Go.Proofs.YtgknafhpfghbjaaW.PrintWords Go.Proofs.YtgknafhpfghbjaaW.PrintLast Go.Proofs.YtgknafhpfghbjaaW.PrintMore

set_option maxHeartbeats 4000000 in
theorem at_no {w : World} {base g : Nat} {ok : Nat → Prop} {v : Value} {xs : List S32} (hN : Net 51 w base g ok v xs) (hbase : base ≤ w.heap.size) (i : Int) (hi : isAt xs i = false) :
    Calls Try.prog 13 #[.pointer (some ⟨g, 0, none⟩), .int .i64 i] w fun e w' => e = .returned (.tuple #[.agg #[.int .i64 0, .int .i64 0, .slice none 0 0], .bool false]) ∧ Below w.heap.size w w' := by
  have hc := hN.cell
  have hlt := hN.lt
  obtain ⟨A, c, hv, hlc, _⟩ := hN.row.reads
  subst hv
  have hle := hN.le
  clear hN
  rcases isAt_false.1 hi with h | ⟨h0, h1⟩
  · have t1 : decide (i < 0) = true := decide_eq_true h
    clear hi
    go_enter Try.func13, Try.ntmps13
    go_wp2
    exact bodyPost_ret (v := .tuple #[.agg #[.int .i64 0, .int .i64 0, .slice none 0 0], .bool false]) (by simp [results, Try.results13, go_sem, *]) rfl ⟨rfl, (by repeat (first | exact Below.refl _ _ | (refine below_set ?_ (by first | exact Nat.le_refl _ | (simp; done) | (simp; omega))) | apply below_alloc))⟩
  · have t1 : decide (i < 0) = false := decide_eq_false (by omega)
    have t2 : decide ((xs.length : Int) ≤ i) = true := decide_eq_true h1
    clear hi
    go_enter Try.func13, Try.ntmps13
    go_wp2
    exact bodyPost_ret (v := .tuple #[.agg #[.int .i64 0, .int .i64 0, .slice none 0 0], .bool false]) (by simp [results, Try.results13, go_sem, *]) rfl ⟨rfl, (by repeat (first | exact Below.refl _ _ | (refine below_set ?_ (by first | exact Nat.le_refl _ | (simp; done) | (simp; omega))) | apply below_alloc))⟩
set_option maxHeartbeats 4000000 in
theorem at_yes {w : World} {base g : Nat} {ok : Nat → Prop} {v : Value} {xs : List S32} (hN : Net 51 w base g ok v xs) (hbase : base ≤ w.heap.size) (i : Int) (hi : isAt xs i = true) :
    Calls Try.prog 13 #[.pointer (some ⟨g, 0, none⟩), .int .i64 i] w fun e w' => ∃ u : Value, e = .returned (.tuple #[.agg #[.int .i64 (rd_T32 xs i).f0, .int .i64 (rd_T32 xs i).f1, u], .bool true]) ∧ Kd.R (Kd.int .u8) 5 w' w.heap.size (fun _ => True) u (rd_T32 xs i).f2 ∧ Below w.heap.size w w' := by
  obtain ⟨h0, h1⟩ := isAt_true.1 hi
  have hs := hN.small _ (rd_mem hi)
  have hc := (hN.alloc (.cells #[.int .i64 0, .int .i64 0, .slice none 0 0] 32)).cell
  have hlt := hN.lt
  have hle := hN.le
  obtain ⟨ad, c, u, hv, e0, e1, e2, hu⟩ := (hN.alloc (.cells #[.int .i64 0, .int .i64 0, .slice none 0 0] 32)).at_ i h0 h1
  obtain ⟨A1, c1, hu1, hl1, hC1⟩ := Kd.R_reads hu
  subst hu1
  subst hv
  have HC := Aside0.mk hC1
  have HN := Aside0.mk hN
  clear hN hu hC1
  generalize rd_T32 xs i = x at e0 e1 e2 hs HC hl1 ⊢
  have t1 : decide (i < 0) = false := decide_eq_false (by omega)
  have t2 : decide ((xs.length : Int) ≤ i) = false := decide_eq_false (by omega)
  clear hi
  go_enter Try.func13, Try.ntmps13
  go_wp2_with fail
  refine (copied_calls x.f0 x.f1 A1 c1 x.f2 _ (by omega) HC.out).mono ?_
  rintro e w1 ⟨u1, rfl, hu1, hb1⟩
  obtain ⟨A2, c2, hv2, hl2, _⟩ := Kd.R_reads hu1
  subst hv2
  have HU := Aside0.mk (Kd.R_lower (base' := w.heap.size) hu1 (by simp))
  have HB := Aside0.mk (below_step (below_alloc (Below.refl w.heap.size w) _) hb1)
  have hx := blk_below (blk_new w (.cells #[.int .i64 0, .int .i64 0, .slice none 0 0] 32)) hb1
  have ha0 := (blk_cell hx 0).trans rfl
  have ha1 := (blk_cell hx 1).trans rfl
  have ha2 := (blk_cell hx 2).trans rfl
  have hf0 := blk_frozen hx 0
  have hf1 := blk_frozen hx 1
  have hf2 := blk_frozen hx 2
  clear hb1 hu1 hc e0 e1 e2
  go_wp2_with fail
  refine bodyPost_ret (v := .tuple #[.agg #[.int .i64 x.f0, .int .i64 x.f1, .slice A2 x.f2.length c2], .bool true]) (by simp [results, Try.results13, go_sem, *]) rfl ⟨_, rfl, ?_, ?_⟩
  · exact Kd.R_set (Kd.R_set (Kd.R_set HU.out hx (by simp [Kd.int, Kd.scalar]) 0 _) (blk_set hx 0 _) (by simp [Kd.int, Kd.scalar]) 1 _) (blk_set (blk_set hx 0 _) 1 _) (by simp [Kd.int, Kd.scalar]) 2 _
  · exact below_set (below_set (below_set HB.out (Nat.le_refl _)) (Nat.le_refl _)) (Nat.le_refl _)
end Go.Proofs.Ytgknafhpfghbjaa.X
