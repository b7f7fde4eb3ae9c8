/- At, Take, Drop of the net, whatever the number. -/
import Derived.Test.YtgknafhpfghbjaaTake
set_option linter.unusedVariables false
namespace Go.Proofs.Ytgknafhpfghbjaa.X
open Go.RowKit Go.Proofs.Ytgknafhpfghbjaa.B Go.Proofs.Ytgknafhpfghbjaa Go.Proofs.YtgknafhpfghbjaaW.PrintWords Go.Proofs.YtgknafhpfghbjaaW.PrintLast Go.Proofs.YtgknafhpfghbjaaW.PrintMore

theorem NPost.below {t : Nat} {w w' w2 : World} {base g : Nat} {ok : Nat → Prop} {v : Value} {xs : List S32} (h : NPost t w w' base g ok v xs) (hbase : base ≤ w.heap.size) (hb : Below w'.heap.size w' w2) : NPost t w w2 base g ok v xs := by
  obtain ⟨v1, h1, h2, h3, h4⟩ := h
  exact ⟨v1, h1.below hb, h2.trans (hb.mono (Nat.le_trans hbase h3.1)), h3.below hb, h4⟩
theorem take_calls {w : World} {base g : Nat} {ok : Nat → Prop} {v : Value} {xs : List S32} (hN : Net 51 w base g ok v xs) (hbase : base ≤ w.heap.size) (hfresh : ∀ k, w.heap.size ≤ k → ok k) (i : Int) :
    Calls Try.prog 11 #[.pointer (some ⟨g, 0, none⟩), .int .i64 i] w fun e w' => ∃ A c, e = .returned (.tuple #[.agg #[.int .i64 (takeP xs i).f0, .int .i64 (takeP xs i).f1, .slice A (takeP xs i).f2.length c], .int .i64 (takeE xs i)]) ∧ (takeP xs i).f2.length ≤ c ∧ Kd.R (Kd.int .u8) 5 w' base ok (.slice A (takeP xs i).f2.length c) (takeP xs i).f2 ∧ NPost 51 w w' base g ok v (takeL xs i) := by
  cases hi : isAt xs i with
  | true =>
    simp only [takeP, takeE, takeL, hi, if_true]
    refine (take_yes hN hbase hfresh i hi).mono ?_
    rintro e w' ⟨u, rfl, hu, hp⟩
    obtain ⟨A, c, rfl, hl, _⟩ := Kd.R_reads hu
    exact ⟨A, c, rfl, hl, hu, hp⟩
  | false =>
    simp only [takeP, takeE, takeL, hi, Bool.false_eq_true, if_false]
    refine (take_no hN hbase i hi).mono ?_
    rintro e w' ⟨rfl, hb⟩
    exact ⟨none, 0, rfl, Nat.le_refl _, Kd.R_nil _ _ _ _ _, hN.post_same hbase hb⟩
def atP (xs : List S32) (i : Int) : S32 := if isAt xs i then rd_T32 xs i else z32
theorem at_calls {w : World} {base g : Nat} {ok : Nat → Prop} {v : Value} {xs : List S32} (hN : Net 51 w base g ok v xs) (hbase : base ≤ w.heap.size) (i : Int) :
    Calls Try.prog 13 #[.pointer (some ⟨g, 0, none⟩), .int .i64 i] w fun e w' => ∃ A c, e = .returned (.tuple #[.agg #[.int .i64 (takeP xs i).f0, .int .i64 (takeP xs i).f1, .slice A (takeP xs i).f2.length c], .bool (isAt xs i)]) ∧ (takeP xs i).f2.length ≤ c ∧ Kd.R (Kd.int .u8) 5 w' w.heap.size (fun _ => True) (.slice A (takeP xs i).f2.length c) (takeP xs i).f2 ∧ Below w.heap.size w w' := by
  cases hi : isAt xs i with
  | true =>
    simp only [takeP, hi, if_true]
    refine (at_yes hN hbase i hi).mono ?_
    rintro e w' ⟨u, rfl, hu, hp⟩
    obtain ⟨A, c, rfl, hl, _⟩ := Kd.R_reads hu
    exact ⟨A, c, rfl, hl, hu, hp⟩
  | false =>
    simp only [takeP, hi, Bool.false_eq_true, if_false]
    refine (at_no hN hbase i hi).mono ?_
    rintro e w' ⟨rfl, hb⟩
    exact ⟨none, 0, rfl, Nat.le_refl _, Kd.R_nil _ _ _ _ _, hb⟩
set_option maxHeartbeats 1000000 in
theorem drop_calls {w : World} {base g : Nat} {ok : Nat → Prop} {v : Value} {xs : List S32} (hN : Net 51 w base g ok v xs) (hbase : base ≤ w.heap.size) (hfresh : ∀ k, w.heap.size ≤ k → ok k) (i : Int) :
    Calls Try.prog 15 #[.pointer (some ⟨g, 0, none⟩), .int .i64 i] w fun e w' => e = .returned (.int .i64 (takeE xs i)) ∧ NPost 51 w w' base g ok v (takeL xs i) := by
  have HN := Aside0.mk hN
  have HF := Aside0.mk hfresh
  clear hN hfresh
  go_enter Try.func15, Try.ntmps15
  go_wp2_with fail
  refine (take_calls HN.out hbase HF.out i).mono ?_
  generalize takeP xs i = p
  rintro e w1 ⟨A, c, rfl, hl, hu, hp⟩
  have HP := Aside0.mk (hp.below hbase (below_alloc (Below.refl _ _) (.cells #[.int .i64 p.f0, .int .i64 p.f1, .slice A p.f2.length c] 32)))
  clear hp hu
  go_wp2
  go_ret
  exact ⟨rfl, HP.out⟩
end Go.Proofs.Ytgknafhpfghbjaa.X
