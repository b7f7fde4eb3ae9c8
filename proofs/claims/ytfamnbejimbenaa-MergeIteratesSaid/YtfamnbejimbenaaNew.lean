/- merge.New, walked. -/
import Derived.Test.YtfamnbejimbenaaClone
import Derived.Test.YtfamnbejimbenaaBuilt
import Derived.Deep.RegionHeld3
set_option linter.unusedVariables false
set_option linter.unusedSimpArgs false
namespace Go.Proofs.Ytfamnbejimbenaa.X
open Go.RowKit Go.Sort Go.Proofs.Ytfamnbejimbenaa.G Go.Proofs.YtfamnbejimbenaaW.PrintWords Go.Proofs.YtfamnbejimbenaaW.PrintLast Go.Proofs.YtfamnbejimbenaaW.PrintMore
theorem Hv.wide {w : World} {B M B' M' : Nat} {u : Value} {x : List S24} (h : Hv w B M u x) (hB : B' ≤ B) (hM : M ≤ M') : Hv w B' M' u x := by
  obtain ⟨b, o, c, h1, h2, h3, h4, h5⟩ := h
  exact ⟨b, o, c, h1, h2, ⟨by omega, by omega⟩, h4, h5⟩
theorem put1_len (l : List (List S24)) (x : List S24) : (put1 l x).length ≤ l.length + 1 := by
  unfold put1
  split
  · omega
  · have := (pushed_perm l x).length_eq
    rw [List.length_append, List.length_singleton] at this
    omega
theorem fold_next {xs : List (List S24)} {i : Nat} {x : List S24} (hx : xs[i]? = some x) : (xs.take (i + 1)).foldl put1 [] = put1 ((xs.take i).foldl put1 []) x := by
  rw [List.take_add_one, hx]; simp
/-- New's loop. -/
structure NewAt (l : List (List S24)) (w wr : World) (i : Nat) : Prop where
  hs : ∃ v us, Hs wr w.heap.size wr.heap.size w.heap.size ((l.take i).foldl put1 []) v us
  step : Step w.heap.size w wr
  len : ((l.take i).foldl put1 []).length ≤ i
/-- Behind Clone. -/
structure NewMid (l : List (List S24)) (w w2 : World) (i : Nat) (u : Value) (x : List S24) : Prop where
  hs : ∃ v us, Hs w2 w.heap.size w2.heap.size w.heap.size ((l.take i).foldl put1 []) v us
  step : Step w.heap.size w w2
  hl : ((l.take i).foldl put1 []).length ≤ i
  hv : Hv w2 w.heap.size w2.heap.size u x
theorem NewAt.cloned {l : List (List S24)} {w wr w2 : World} {i : Nat} {u : Value} {x : List S24} (h : NewAt l w wr i) (hR : Kd.R k24 24 w2 wr.drew.heap.size (fun _ => True) u x) (hb : Below wr.drew.heap.size wr.drew w2) (hx : x ≠ []) : NewMid l w w2 i u x := by
  have hb' : Below wr.heap.size wr w2 := below_step (below_drew (Below.refl _ _)) hb
  have hB : w.heap.size ≤ wr.heap.size := h.step.below.size
  obtain ⟨v, us, hs⟩ := h.hs
  exact ⟨⟨v, us, (hs.below hb' hB).mono hb'.size⟩, h.step.trans (Step.of_below hb' hB), h.len, (Hv.of_R hR hx).wide hB (Nat.le_refl _)⟩
theorem NewMid.next {l : List (List S24)} {w w2 w3 : World} {i : Nat} {u v : Value} {us : List Value} {x : List S24} (h : NewMid l w w2 i u x) (hx : x ≠ []) (hi : l[i]? = some x) (hs : Hs w3 w.heap.size w2.heap.size w.heap.size (pushed ((l.take i).foldl put1 []) x) v us) (hst : Step w.heap.size w2 w3) : NewAt l w w3 (i + 1) := by
  have e := fold_next hi
  have e2 : put1 ((l.take i).foldl put1 []) x = pushed ((l.take i).foldl put1 []) x := if_neg hx
  refine ⟨⟨v, us, ?_⟩, h.step.trans hst, ?_⟩
  · rw [e, e2]
    exact hs.mono hst.below.size
  · rw [e]
    exact Nat.le_trans (put1_len _ _) (Nat.succ_le_succ h.hl)
set_option maxHeartbeats 1000000 in
theorem new14_calls (A0 : Option Addr) (c0 : Nat) (l : List (List S24)) (w : World) (hC : Kd.C (Kd.slice 24 k24) w A0 l.length l) (hl : l.length ≤ 100000) (hx : ∀ x ∈ l, x.length ≤ 1000000) :
    Calls Try.prog 14 #[.slice A0 l.length c0] w fun e w' => ∃ g, e = .returned (.pointer (some ⟨g, 0, none⟩)) ∧ (∃ v us, Hs w' w.heap.size w'.heap.size g (built l) v us) ∧ Below w.heap.size w w' := by
  have HC := Aside0.mk hC
  have HX := Aside0.mk hx
  have HL := Aside0.mk hl
  have hN0 : NewAt l w (w.alloc (.cells #[.slice none 0 0] 47)) 0 := by
    refine ⟨⟨.slice none 0 0, [], Nat.le_refl _, blk_new w _, ⟨rfl, .inl ⟨rfl, rfl⟩⟩, fun i x hi => by simp at hi, fun x hx => by simp at hx⟩, Step.of_below (below_alloc (Below.refl _ _) _) (Nat.le_refl _), by simp⟩
  have HN0 := Aside0.mk hN0
  clear hC hx hN0
  go_enter Try.func14, Try.ntmps14
  go_wp2_with fail
  go_loopw [10] (fun v10 wr => ∃ i : Nat, v10 = .int .i64 i ∧ i ≤ l.length ∧ Aside0 (NewAt l w wr i)) (fun v10 _ => l.length - (intOf v10).toNat)
  case atStart => exact ⟨0, rfl, Nat.zero_le _, HN0⟩
  case round =>
    obtain ⟨i, rfl, hi, HD⟩ := hrel
    by_cases hlt : i < l.length
    · have t1 : decide ((i : Int) < (l.length : Int)) = true := decide_eq_true (by omega)
      have t2 : decide (i < l.length) = true := decide_eq_true hlt
      obtain ⟨ad, A1, c1, x, rfl, hx, hc, hle, hC1⟩ := at_row (Kd.C_below HC.out HD.out.step.below) i hlt
      have HXI := Aside0.mk hx
      have HC1 := Aside0.mk hC1
      have HXL := Aside0.mk (HX.out x (List.mem_of_getElem? hx))
      clear hC1 hx
      by_cases hx0 : x.length = 0
      · have t3 : decide ((0 : Int) < (x.length : Int)) = false := decide_eq_false (by omega)
        obtain rfl : x = [] := List.eq_nil_of_length_eq_zero hx0
        have HF := Aside0.mk (fold_next HXI.out)
        go_wp2_with fail
        go_roundw
        case rel => exact ⟨i + 1, by go_num, by omega, ⟨by
          have h := HD.out
          have e := HF.out
          rw [put1, if_pos rfl] at e
          exact ⟨e ▸ h.hs, h.step, e ▸ Nat.le_succ_of_le h.len⟩⟩⟩
        case measure => simp [intOf]; omega
      · have t3 : decide ((0 : Int) < (x.length : Int)) = true := decide_eq_true (by omega)
        have hxne : x ≠ [] := fun e => hx0 (by rw [e]; rfl)
        have HNE := Aside0.mk hxne
        have HF := Aside0.mk (fold_next HXI.out)
        clear hxne
        go_wp2_with fail
        go_region_held3 (fun _ => True) (trivial) (first | (go_at_call 24; refine (clone24_calls A1 c1 x _ HNE.out HXL.out (Kd.C_drew HC1.out)).mono ?_; rintro e w2 ⟨v2, rfl, hR2, hb2⟩; obtain ⟨A2, c2, rfl⟩ := Kd.R_slice hR2; have HQ := Aside0.mk (HD.out.cloned hR2 hb2 HNE.out); clear hR2 hb2) | (go_at_call 23; obtain ⟨v2, us2, hs2⟩ := HQ.out.hs; refine (push23_calls hs2 HQ.out.step.below.size (Nat.lt_of_le_of_lt HQ.out.hl (by omega)) A2 x.length c2 x HQ.out.hv HNE.out).mono ?_; rintro e w3 ⟨rfl, ⟨v3, us3, hs3⟩, hst3⟩; have HP := Aside0.mk (HQ.out.next HNE.out HXI.out hs3 hst3); clear hs2 hs3 hst3))
        all_goals (
          go_simp
          go_wp2_with fail
          go_roundw
          case rel => exact ⟨i + 1, by go_num, by omega, HP⟩
          case measure => simp [intOf]; omega)
    · have t1 : decide ((i : Int) < (l.length : Int)) = false := decide_eq_false (by omega)
      have t2 : decide (i < l.length) = false := decide_eq_false hlt
      have HE := Aside0.mk (show l.take i = l from List.take_of_length_le (by omega))
      go_wp2
      go_ret
      exact ⟨_, rfl, by have := HD.out.hs; rw [HE.out] at this; exact this, HD.out.step.below⟩
end Go.Proofs.Ytfamnbejimbenaa.X
