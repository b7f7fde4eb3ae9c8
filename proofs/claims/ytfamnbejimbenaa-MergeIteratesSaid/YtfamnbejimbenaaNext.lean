/- The iterator's Next, walked. -/
import Derived.Test.YtfamnbejimbenaaNexts
import Derived.Test.YtfamnbejimbenaaMea
import Derived.Deep.QuietTactic
import Derived.BigQuiet
set_option linter.unusedVariables false
set_option linter.unusedSimpArgs false
namespace Go.Proofs.Ytfamnbejimbenaa.X
open Go.RowKit Go.Sort Go.Proofs.Ytfamnbejimbenaa.G Go.Proofs.YtfamnbejimbenaaW.PrintWords Go.Proofs.YtfamnbejimbenaaW.PrintLast Go.Proofs.YtfamnbejimbenaaW.PrintMore
/-- What Next leaves in memory. -/
structure NState (w w' : World) (B M g : Nat) (ls : List (List S24)) : Prop where
  hs : ∃ v us, Hs w' B M g ls v us
  step : Step B w w'
set_option maxHeartbeats 1000000 in
theorem next16_nil {w : World} {B M g : Nat} {v : Value} {us : List Value} (h : Hs w B M g [] v us) (hB : B ≤ w.heap.size) (hM : M ≤ w.heap.size) :
    Calls Try.prog 16 #[.pointer (some ⟨g, 0, none⟩)] w fun e w' => e = .returned (.tuple #[.agg #[.int .i64 0, .int .u64 0, .int .u64 0], .bool false]) ∧ NState w w' B M g [] := by
  have hc0 := h.cell
  have hgl : g < w.heap.size := (Array.getElem?_eq_some_iff.1 h.box).1
  obtain ⟨A, c, rfl⟩ : ∃ A c, v = .slice A 0 c := by
    rcases h.own.2 with ⟨he, h0⟩ | ⟨k, cap, cur, e1, _⟩
    · exact ⟨none, 0, he⟩
    · exact ⟨_, _, e1⟩
  have H := Aside0.mk h
  clear h
  go_enter Try.func16, Try.ntmps16
  go_wp2_with fail
  refine bodyPost_ret (v := .tuple #[.agg #[.int .i64 0, .int .u64 0, .int .u64 0], .bool false]) (by simp [results, Try.results16, go_sem, *]) rfl ?_
  exact ⟨rfl, ⟨⟨_, _, H.out.below (below_alloc (Below.refl _ _) _) hB⟩, Step.of_below (below_alloc (Below.refl _ _) _) hB⟩⟩
theorem taken_len (ls : List (List S24)) (r : List S24) (h0 : 0 < ls.length) : (taken ls r).length ≤ ls.length := by
  unfold taken
  split
  · have := (popped_perm ls (ls.length - 1) (by omega)).length_eq
    simp only [List.length_cons] at this
    omega
  · have := (fixed_perm (ls.set 0 r) (by rw [List.length_set]; exact h0)).length_eq
    rw [List.length_set] at this
    omega
theorem head_le {l : List (List S24)} {q : S24} {s : List S24} (h0 : 0 < l.length) (hq : l.getD 0 [] = q :: s) : s.length + 1 ≤ l.flatten.length := by
  obtain ⟨x, t, rfl⟩ : ∃ x t, l = x :: t := by cases l with | nil => cases h0 | cons x t => exact ⟨x, t, rfl⟩
  obtain rfl : x = q :: s := hq
  simp
/-- The state in Next's loop. -/
structure Lp (w wr : World) (B M g t4 : Nat) (p : S24) (ls l : List (List S24)) (k : Nat) : Prop where
  hs : ∃ v us, Hs wr B M g l v us
  step : Step B w wr
  z : wr.heap[w.heap.size]? = some (Obj.cells #[.int .i64 0, .int .u64 0, .int .u64 0] 24 (0, 0))
  q : wr.heap[t4]? = some (Obj.cells #[.int .i64 p.f0, .int .u64 p.f1, .int .u64 p.f2] 24 (0, 0))
  inv : Inv l
  fuel : l.flatten.length ≤ k
  eq : skip p.f0 k l = nextL ls
  len : l.length ≤ 1000000
  flen : l.flatten.length ≤ 1000000
set_option maxHeartbeats 1000000 in
theorem next16_calls {w : World} {B M g : Nat} {ls : List (List S24)} {v : Value} {us : List Value} (h : Hs w B M g ls v us) (hB : B ≤ w.heap.size) (hM : M ≤ w.heap.size) (hI : Inv ls) (hl : ls.length ≤ 1000000) (hf : ls.flatten.length ≤ 1000000) (h0 : 0 < ls.length) (p : S24) (r : List S24) (hp : ls.getD 0 [] = p :: r) :
    Calls Try.prog 16 #[.pointer (some ⟨g, 0, none⟩)] w fun e w' => e = .returned (.tuple #[.agg #[.int .i64 p.f0, .int .u64 p.f1, .int .u64 p.f2], .bool true]) ∧ NState w w' B M g (nextL ls) := by
  have hc0 := h.cell
  have hgl : g < w.heap.size := (Array.getElem?_eq_some_iff.1 h.box).1
  obtain ⟨A, c, rfl⟩ : ∃ A c, v = .slice A ls.length c := by
    rcases h.own.2 with ⟨he, h0⟩ | ⟨k, cap, cur, e1, _⟩
    · omega
    · exact ⟨_, _, e1⟩
  have H := Aside0.mk h
  clear h
  have t1 : ((ls.length : Int) == 0) = false := beq_eq_false_iff_ne.2 (by omega)
  have t2 : decide ((ls.length : Int) = 0) = false := decide_eq_false (by omega)
  have hrl : r.length ≤ 1000000 := by
    have := (hI.taken h0 hp).2.length_eq
    obtain ⟨x, t, rfl⟩ : ∃ x t, ls = x :: t := by cases ls with | nil => cases h0 | cons x t => exact ⟨x, t, rfl⟩
    obtain rfl : x = p :: r := hp
    simp at hf; omega
  have H1 := Aside0.mk (H.out.below (below_alloc (Below.refl _ _) (.cells #[.int .i64 0, .int .u64 0, .int .u64 0] 24)) hB)
  have hs1 : (w.alloc (.cells #[.int .i64 0, .int .u64 0, .int .u64 0] 24)).heap.size = w.heap.size + 1 := by simp
  go_enter Try.func16, Try.ntmps16
  go_wp2_with fail
  refine (take25_calls H1.out (by rw [hs1]; omega) hl h0 p r hp hrl (by rw [hs1]; omega)).mono ?_
  rintro e w2 ⟨rfl, ⟨v2, us2, hs2⟩, hst2⟩
  have HS2 := Aside0.mk hs2
  have HT2 := Aside0.mk hst2
  have hz2 := (hst2.pts w.heap.size _ _ (blk_new w (.cells #[.int .i64 0, .int .u64 0, .int .u64 0] 24))).trans (blk_new w (.cells #[.int .i64 0, .int .u64 0, .int .u64 0] 24))
  have HZ2 := Aside0.mk hz2
  clear hs2 hst2 hz2
  go_wp2_with fail
  have hIt := hI.taken h0 hp
  have hln := hIt.2.length_eq
  have hL0 : Lp w (w2.alloc (.cells #[.int .i64 p.f0, .int .u64 p.f1, .int .u64 p.f2] 24)) B M g w2.heap.size p ls (taken ls r) ls.flatten.length := by
    have hB2 : B ≤ w2.heap.size := Nat.le_trans (by rw [hs1]; omega) HT2.out.below.size
    refine ⟨⟨_, _, HS2.out.below (below_alloc (Below.refl _ _) _) hB2⟩, ((Step.of_below (below_alloc (Below.refl _ _) (.cells #[.int .i64 0, .int .u64 0, .int .u64 0] 24)) hB).trans HT2.out).trans (Step.of_below (below_alloc (Below.refl _ _) _) hB2), blk_alloc HZ2.out _, blk_new _ _, hIt.1, by simp at hln ⊢; omega, by unfold nextL; rw [hp]; rfl, Nat.le_trans (taken_len ls r h0) hl, by simp at hln hf ⊢; omega⟩
  have HL0 := Aside0.mk hL0
  clear hL0 hIt hln
  go_loopw [] (fun wr => ∃ (l : List (List S24)) (k : Nat), Aside0 (Lp w wr B M g w2.heap.size p ls l k)) (fun wr => meaW g wr)
  case atStart => exact ⟨_, _, HL0⟩
  case round =>
    obtain ⟨l, k, HL⟩ := hrel
    have hBr : B ≤ wr.heap.size := Nat.le_trans hB HL.out.step.below.size
    have hMr : M ≤ wr.heap.size := Nat.le_trans hM HL.out.step.below.size
    obtain ⟨v3, us3, hs3⟩ := HL.out.hs
    have hmea := meaW_is hs3
    have hc3 := hs3.cell
    have z0 := (blk_cell HL.out.q 0).trans rfl
    have y0 := (blk_cell HL.out.z 0).trans rfl
    have y1 := (blk_cell HL.out.z 1).trans rfl
    have y2 := (blk_cell HL.out.z 2).trans rfl
    have g0 := blk_frozen HL.out.z 0
    have g1 := blk_frozen HL.out.z 1
    have g2 := blk_frozen HL.out.z 2
    have x1 := (blk_cell HL.out.q 1).trans rfl
    have x2 := (blk_cell HL.out.q 2).trans rfl
    have HS3 := Aside0.mk hs3
    have HMEA := Aside0.mk hmea
    have HBM := Aside0.mk (And.intro hBr hMr)
    clear hmea hBr hMr
    by_cases hl0 : l.length = 0
    · obtain ⟨A3, c3, rfl⟩ : ∃ A c, v3 = .slice A 0 c := by
        rcases hs3.own.2 with ⟨he, h0⟩ | ⟨k, cap, cur, e1, _⟩
        · exact ⟨none, 0, he⟩
        · exact ⟨_, _, by rw [hl0] at e1; exact e1⟩
      have hE := HL.out.eq
      have hln : l = [] := List.eq_nil_of_length_eq_zero hl0
      have hsk : skip p.f0 k l = l := by
        cases k with
        | zero => rfl
        | succ k => rw [skip, if_neg (fun h => by omega)]
      rw [hsk] at hE
      clear hs3
      go_wp2_with fail
      go_quiet (fail)
      go_wp2_with fail
      refine bodyPost_ret (v := .tuple #[.agg #[.int .i64 p.f0, .int .u64 p.f1, .int .u64 p.f2], .bool true]) (by simp [results, Try.results16, go_sem, *]) rfl ?_
      have hN : Hs wr B M g (nextL ls) (.slice A3 0 c3) us3 := hE ▸ HS3.out
      exact ⟨rfl, ⟨⟨_, _, hN.far w.heap.size hM HL.out.z (fun b hb => three_other _ _ _ _ _ b hb)⟩, (HL.out.step.trans (Step.of_below (pw_below_drewN (Below.refl wr.heap.size wr) _) HBM.out.1)).put hB _ _ _⟩⟩
    · have hlp : 0 < l.length := by omega
      obtain ⟨q, s, hq⟩ := HL.out.inv.head hlp
      obtain ⟨kk, cc, b1, o1, c1, x, rfl, ex, ix, hx, hc, e1, u1, p0, p1, p2⟩ := hs3.at_ 0 hlp
      obtain rfl : x = q :: s := ex.symm.trans hq
      simp only [hd, List.headD_cons] at p0 p1 p2
      have t5 : decide ((0 : Int) < (l.length : Int)) = true := decide_eq_true (by omega)
      have hl1 : (0 : Int) < (l.length : Int) := by omega
      have hx1 : (0 : Int) < (((q :: s).length : Nat) : Int) := by omega
      obtain ⟨nx, hnx⟩ : ∃ nx, nx = (q :: s).length := ⟨_, rfl⟩
      rw [← hnx] at e1 hx1
      have HNX := Aside0.mk hnx
      clear hnx hs3 ex ix hx u1 p1 p2
      by_cases hqt : q.f0 = p.f0
      · have t6 : (q.f0 == p.f0) = true := by simpa using hqt
        have t7 : decide (q.f0 = p.f0) = true := decide_eq_true hqt
        go_wp2_with fail
        go_quiet (fail)
        go_wp2_with fail
        have hIt := HL.out.inv.taken hlp hq
        have hln := hIt.2.length_eq
        simp only [List.length_cons] at hln
        have hfl := HL.out.flen
        have hfu := HL.out.fuel
        obtain ⟨k', rfl⟩ : ∃ k', k = k' + 1 := ⟨k - 1, by omega⟩
        have hE := HL.out.eq
        rw [skip, if_pos ⟨hlp, by rw [hq]; exact hqt⟩, hq] at hE
        have hsl : s.length ≤ 1000000 := by
          have h1 := head_le hlp hq
          omega
        refine (take25_calls (HS3.out.below (pw_below_drewN (Below.refl wr.heap.size wr) _) HBM.out.1) HBM.out.1 HL.out.len hlp q s hq hsl HBM.out.2).mono ?_
        rintro e w5 ⟨rfl, ⟨v5, us5, hs5⟩, hst5⟩
        have hst5' := (Step.of_below (pw_below_drewN (Below.refl wr.heap.size wr) _) HBM.out.1).trans hst5
        have hm5 := meaW_is hs5
        go_wp2_with fail
        go_roundw
        case rel => exact ⟨taken l s, k', ⟨⟨_, _, hs5⟩, HL.out.step.trans hst5', (hst5'.pts _ _ _ HL.out.z).trans HL.out.z, (hst5'.pts _ _ _ HL.out.q).trans HL.out.q, hIt.1, by omega, hE, Nat.le_trans (taken_len l s hlp) HL.out.len, by omega⟩⟩
        case measure => rw [hm5, HMEA.out]; omega
      · have t6 : (q.f0 == p.f0) = false := by simpa using hqt
        have t7 : decide (q.f0 = p.f0) = false := decide_eq_false hqt
        have hE := HL.out.eq
        have hsk : skip p.f0 k l = l := by
          cases k with
          | zero => rfl
          | succ k => rw [skip, if_neg (fun h => hqt (by have := h.2; rw [hq] at this; exact this))]
        rw [hsk] at hE
        have HE := Aside0.mk hE
        clear hE hsk
        go_wp2_with fail
        go_quiet (fail)
        go_wp2_with fail
        refine bodyPost_ret (v := .tuple #[.agg #[.int .i64 p.f0, .int .u64 p.f1, .int .u64 p.f2], .bool true]) (by simp [results, Try.results16, go_sem, *]) rfl ?_
        have hN := HS3.out
        rw [HE.out] at hN
        exact ⟨rfl, ⟨⟨_, _, hN.far w.heap.size hM HL.out.z (fun b hb => three_other _ _ _ _ _ b hb)⟩, (HL.out.step.trans (Step.of_below (pw_below_drewN (Below.refl wr.heap.size wr) _) HBM.out.1)).put hB _ _ _⟩⟩
end Go.Proofs.Ytfamnbejimbenaa.X
