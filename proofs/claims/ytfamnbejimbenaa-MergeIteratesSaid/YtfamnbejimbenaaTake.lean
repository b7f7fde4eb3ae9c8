/- The iterator's take, walked. -/
import Derived.Test.YtfamnbejimbenaaHops
import Derived.Test.YtfamnbejimbenaaHfix
set_option linter.unusedVariables false
set_option linter.unusedSimpArgs false
namespace Go.Proofs.Ytfamnbejimbenaa.X
open Go.RowKit Go.Sort Go.Proofs.Ytfamnbejimbenaa.G Go.Proofs.YtfamnbejimbenaaW.PrintWords Go.Proofs.YtfamnbejimbenaaW.PrintLast Go.Proofs.YtfamnbejimbenaaW.PrintMore
theorem Hv.tail {w : World} {B M : Nat} {b o c : Nat} {p : S24} {r : List S24} (h : Hv w B M (.slice (some ⟨b, o, none⟩) (r.length + 1) c) (p :: r)) : Hv w B M (.slice (some ⟨b, o + 3, none⟩) r.length (c - 1)) r := by
  obtain ⟨b1, o1, c1, e, h2, h3, h4, h5⟩ := h
  injection e with e1 e2 e3
  injection e1 with e1
  injection e1 with e1 e4
  subst e1 e3 e4
  refine ⟨b, o + 3, c - 1, rfl, by simp at h2; omega, h3, h4, fun i q hq => ?_⟩
  have := h5 (i + 1) q (by simpa using hq)
  have e : o + (i + 1) * 3 = o + 3 + i * 3 := by omega
  rw [e] at this
  exact this
theorem Hs.put0 {w : World} {B M g : Nat} {ls : List (List S24)} {v : Value} {us : List Value} (h : Hs w B M g ls v us) (k n c : Nat) (hv : v = .slice (some ⟨k, 0, none⟩) n c) (h0 : 0 < ls.length) (u : Value) (r : List S24) (hu : Hv w B M u r) (hr : r ≠ []) :
    (∃ us', Hs (w.setCell ⟨k, 0, none⟩ u) B M g (ls.set 0 r) v us') ∧ Step B w (w.setCell ⟨k, 0, none⟩ u) := by
  subst hv
  obtain ⟨cur, hk, hBk, hcn, hcm, hcs, hct⟩ : ∃ cur, w.heap[k]? = some (Obj.cells cur 29 (0, 0)) ∧ B ≤ k ∧ ls.length ≤ c ∧ c ≤ maxLen ∧ cur.size = c * 1 ∧ cur.toList.take (ls.length * 1) = us := by
    rcases h.own.2 with ⟨he, _⟩ | ⟨k1, cap, cur, he, hb, h1, h2, h3, h4, h5⟩
    · injection he with h1; cases h1
    · injection he with g1 g2 g3
      injection g1 with g1
      injection g1 with g1
      subst g1 g3
      exact ⟨cur, h1, hb, h2, h3, h4, h5⟩
  have hn : n = ls.length := by
    rcases h.own.2 with ⟨he, _⟩ | ⟨k1, cap, cur, he, _⟩
    · injection he with h1; cases h1
    · injection he
  have hk1 := heap_setCell_same w k 0 cur 29 u hk
  have hoth : ∀ m, m ≠ k → (w.setCell ⟨k, 0, none⟩ u).heap[m]? = w.heap[m]? := fun m hm => heap_setCell_other _ ⟨k, 0, none⟩ m _ hm
  have hgk : g ≠ k := fun e => by
    have := h.box
    rw [e, hk] at this
    injection this with this
    injection this with _ h2
    cases h2
  have hst : Step B w (w.setCell ⟨k, 0, none⟩ u) := by
    refine ⟨⟨rfl, rfl, rfl, by simp, fun m hm => hoth m (by omega)⟩, fun b cs fr hb => hoth b (fun e => ?_)⟩
    rw [e, hk] at hb
    injection hb with hb
    injection hb with _ h2
    cases h2
  have hlen := h.len
  refine ⟨⟨us.set 0 u, h.gB, (hoth g hgk).trans h.box, ?_, fun m z hz => ?_, fun z hz => ?_⟩, hst⟩
  · rw [List.length_set]
    refine ⟨by simp [hlen], .inr ⟨k, c, _, by rw [hn], hBk, hk1, hcn, hcm, by simpa using hcs, ?_⟩⟩
    rw [← hct]
    simp [List.take_set]
  · cases m with
    | zero =>
      rw [List.getElem?_set_self h0] at hz
      obtain rfl := Option.some.inj hz
      exact ⟨u, by rw [List.getElem?_set_self (by omega)], hu.step hst⟩
    | succ m =>
      rw [List.getElem?_set_ne (by omega)] at hz ⊢
      obtain ⟨u', a1, a2⟩ := h.hv _ z hz
      exact ⟨u', a1, a2.step hst⟩
  · rcases List.mem_or_eq_of_mem_set hz with h1 | h1
    · exact h.ne z h1
    · subst h1; exact hr
/-- The heads do not see a block of points at or past M. -/
theorem Hs.far {w w' : World} {B M g : Nat} {ls : List (List S24)} {v : Value} {us : List Value} (h : Hs w B M g ls v us) (m : Nat) (hm : M ≤ m) {cs : Array Value} (hm24 : w.heap[m]? = some (Obj.cells cs 24 (0, 0))) (ho : ∀ b, b ≠ m → w'.heap[b]? = w.heap[b]?) : Hs w' B M g ls v us := by
  have hgm : g ≠ m := fun e => by
    have := h.box
    rw [e, hm24] at this
    injection this with this
    injection this with _ h2
    cases h2
  refine ⟨h.gB, (ho g hgm).trans h.box, ?_, fun i x hi => ?_, h.ne⟩
  · obtain ⟨h1, h2⟩ := h.own
    refine ⟨h1, ?_⟩
    rcases h2 with h2 | ⟨k, cap, cur, e1, e2, e3, e4⟩
    · exact .inl h2
    · refine .inr ⟨k, cap, cur, e1, e2, (ho k (fun e => ?_)).trans e3, e4⟩
      rw [e, hm24] at e3
      injection e3 with e3
      injection e3 with _ h2
      cases h2
  · obtain ⟨u, h1, b, o, c, a1, a2, a3, ⟨cs', fr, a4⟩, a5⟩ := h.hv i x hi
    have hb := ho b (by omega)
    refine ⟨u, h1, b, o, c, a1, a2, a3, ⟨cs', fr, hb.trans a4⟩, fun j q hq => ?_⟩
    obtain ⟨b1, b2, b3⟩ := a5 j q hq
    exact ⟨(World.cell?_of_block hb).trans b1, (World.cell?_of_block hb).trans b2, (World.cell?_of_block hb).trans b3⟩
theorem three_other (w : World) (s : Nat) (v0 v1 v2 : Value) (m : Nat) (hm : m ≠ s) : (((w.setCell ⟨s, 0, none⟩ v0).setCell ⟨s, 1, none⟩ v1).setCell ⟨s, 2, none⟩ v2).heap[m]? = w.heap[m]? :=
  (heap_setCell_other _ ⟨s, 2, none⟩ m _ hm).trans ((heap_setCell_other _ ⟨s, 1, none⟩ m _ hm).trans (heap_setCell_other _ ⟨s, 0, none⟩ m _ hm))
theorem Step.put {B : Nat} {w w4 : World} (h : Step B w w4) (hB : B ≤ w.heap.size) (v0 v1 v2 : Value) : Step B w (((w4.setCell ⟨w.heap.size, 0, none⟩ v0).setCell ⟨w.heap.size, 1, none⟩ v1).setCell ⟨w.heap.size, 2, none⟩ v2) := by
  refine ⟨⟨h.below.os, h.below.tape, h.below.output, ?_, fun m hm => (three_other _ _ _ _ _ m (by omega)).trans (h.below.block m hm)⟩, fun b cs fr hb => ?_⟩
  · have := h.below.size
    simpa using this
  · have hlt := (Array.getElem?_eq_some_iff.1 hb).1
    exact (three_other _ _ _ _ _ b (by omega)).trans (h.pts b cs fr hb)
/-- What take leaves. -/
def taken (ls : List (List S24)) (r : List S24) : List (List S24) := if r = [] then popped ls (ls.length - 1) else fixed (ls.set 0 r)
set_option maxHeartbeats 1000000 in
theorem take25_calls {w : World} {B M g : Nat} {ls : List (List S24)} {v : Value} {us : List Value} (h : Hs w B M g ls v us) (hB : B ≤ w.heap.size) (hl : ls.length ≤ 1000000) (h0 : 0 < ls.length) (p : S24) (r : List S24) (hp : ls.getD 0 [] = p :: r) (hrl : r.length ≤ 1000000) (hM : M ≤ w.heap.size) :
    Calls Try.prog 25 #[.pointer (some ⟨g, 0, none⟩)] w fun e w' => e = .returned (.agg #[.int .i64 p.f0, .int .u64 p.f1, .int .u64 p.f2]) ∧ (∃ v' us', Hs w' B M g (taken ls r) v' us') ∧ Step B w w' := by
  have hc0 := h.cell
  have hgl : g < w.heap.size := (Array.getElem?_eq_some_iff.1 h.box).1
  obtain ⟨k, c, b1, o1, c1, x, rfl, ex, ix, hx, hc, e1, u1, p0, p1, p2⟩ := h.at_ 0 h0
  obtain rfl : x = p :: r := ex.symm.trans hp
  have hkl := World.block_lt_of_cell? w _ e1
  have hbl := World.block_lt_of_cell? w _ p0
  obtain ⟨cur, hk, hBk⟩ : ∃ cur, w.heap[k]? = some (Obj.cells cur 29 (0, 0)) ∧ B ≤ k := by
    rcases h.own.2 with ⟨he, _⟩ | ⟨k1, cap, cur, he, hb, h1, _⟩
    · injection he with h1; cases h1
    · injection he with g1 g2 g3
      injection g1 with g1
      injection g1 with g1
      subst g1
      exact ⟨cur, h1, hb⟩
  have fk := frozen0 hk 0
  obtain ⟨q, hq1, hq2⟩ := h.hv 0 _ ix
  rw [u1] at hq1
  obtain rfl := Option.some.inj hq1
  have hcl : r.length + 1 ≤ c1 := by
    obtain ⟨_, _, _, e, h2, _⟩ := hq2
    injection e with _ _ e3
    subst e3
    simpa using h2
  simp only [hd, List.headD_cons] at p0 p1 p2
  rw [List.length_cons] at e1 hq2
  have H := Aside0.mk h
  have HV := Aside0.mk hq2.tail
  have hll1 : (0 : Int) < (ls.length : Int) := by omega
  have hrr : (0 : Int) < ((r.length + 1 : Nat) : Int) := by omega
  clear h hq2 ix ex hp hx u1
  by_cases hr : r = []
  · subst hr
    simp only [List.length_nil, Nat.zero_add] at e1 hcl hrr
    have H2 := Aside0.mk (H.out.below (below_alloc (below_alloc (Below.refl w.heap.size w) (.cells #[.int .i64 0, .int .u64 0, .int .u64 0] 24)) (.cells #[.int .i64 p.f0, .int .u64 p.f1, .int .u64 p.f2] 24)) hB)
    have HST2 := Aside0.mk (Step.of_below (below_alloc (below_alloc (Below.refl w.heap.size w) (.cells #[.int .i64 0, .int .u64 0, .int .u64 0] 24)) (.cells #[.int .i64 p.f0, .int .u64 p.f1, .int .u64 p.f2] 24)) hB)
    have HZ2 := Aside0.mk (show ((w.alloc (.cells #[.int .i64 0, .int .u64 0, .int .u64 0] 24)).alloc (.cells #[.int .i64 p.f0, .int .u64 p.f1, .int .u64 p.f2] 24)).heap[w.heap.size]? = some (.cells #[.int .i64 0, .int .u64 0, .int .u64 0] 24) from (blk_alloc (blk_new w (.cells #[.int .i64 0, .int .u64 0, .int .u64 0] 24)) (.cells #[.int .i64 p.f0, .int .u64 p.f1, .int .u64 p.f2] 24)))
    have HP2 := Aside0.mk (show ((w.alloc (.cells #[.int .i64 0, .int .u64 0, .int .u64 0] 24)).alloc (.cells #[.int .i64 p.f0, .int .u64 p.f1, .int .u64 p.f2] 24)).heap[w.heap.size + 1]? = some (.cells #[.int .i64 p.f0, .int .u64 p.f1, .int .u64 p.f2] 24) by have := blk_new (w.alloc (.cells #[.int .i64 0, .int .u64 0, .int .u64 0] 24)) (.cells #[.int .i64 p.f0, .int .u64 p.f1, .int .u64 p.f2] 24); simpa using this)
    go_enter Try.func25, Try.ntmps25
    go_wp2_with fail
    all_goals
      refine (pop33_calls H2.out (Nat.le_trans hB HST2.out.below.size) hl (ls.length - 1) (by omega)).mono ?_
      rintro e w4 ⟨⟨u4, rfl⟩, ⟨v4, us4, hs4⟩, hst4⟩
      have hz4 := (hst4.pts _ _ _ HZ2.out).trans HZ2.out
      have hp4 := (hst4.pts _ _ _ HP2.out).trans HP2.out
      have z0 := (blk_cell hz4 0).trans rfl
      have z1 := (blk_cell hz4 1).trans rfl
      have z2 := (blk_cell hz4 2).trans rfl
      have f0 := blk_frozen hz4 0
      have f1 := blk_frozen hz4 1
      have f2 := blk_frozen hz4 2
      have q0 := (blk_cell hp4 0).trans rfl
      have q1 := (blk_cell hp4 1).trans rfl
      have q2 := (blk_cell hp4 2).trans rfl
      go_wp2
      refine bodyPost_ret (v := .agg #[.int .i64 p.f0, .int .u64 p.f1, .int .u64 p.f2]) (by simp [results, Try.results25, go_sem, *]) rfl ?_
      exact ⟨rfl, ⟨_, _, (show Hs _ B M g (taken ls []) _ _ from hs4).far w.heap.size hM hz4 (fun b hb => three_other _ _ _ _ _ b hb)⟩, (HST2.out.trans hst4).put hB _ _ _⟩
  · have hr1 : 0 < r.length := List.length_pos_iff.2 hr
    have hr2 : (0 : Int) < (r.length : Int) := by omega
    have hr3 : decide ((0 : Int) < (r.length : Int)) = true := decide_eq_true hr2
    obtain ⟨⟨us3, hs3⟩, hst3⟩ := H.out.put0 k ls.length c rfl h0 (.slice (some ⟨b1, o1 + 3, none⟩) r.length (c1 - 1)) r HV.out hr
    have hsz3 : (w.setCell ⟨k, 0, none⟩ (.slice (some ⟨b1, o1 + 3, none⟩) r.length (c1 - 1))).heap.size = w.heap.size := by simp
    have hB3 : B ≤ (w.setCell ⟨k, 0, none⟩ (.slice (some ⟨b1, o1 + 3, none⟩) r.length (c1 - 1))).heap.size := by rw [hsz3]; exact hB
    have HS3 := Aside0.mk (hs3.below (below_alloc (below_alloc (Below.refl (w.setCell ⟨k, 0, none⟩ (.slice (some ⟨b1, o1 + 3, none⟩) r.length (c1 - 1))).heap.size (w.setCell ⟨k, 0, none⟩ (.slice (some ⟨b1, o1 + 3, none⟩) r.length (c1 - 1)))) (.cells #[.int .i64 0, .int .u64 0, .int .u64 0] 24)) (.cells #[.int .i64 p.f0, .int .u64 p.f1, .int .u64 p.f2] 24)) hB3)
    have HST2 := Aside0.mk (hst3.trans (Step.of_below (below_alloc (below_alloc (Below.refl (w.setCell ⟨k, 0, none⟩ (.slice (some ⟨b1, o1 + 3, none⟩) r.length (c1 - 1))).heap.size (w.setCell ⟨k, 0, none⟩ (.slice (some ⟨b1, o1 + 3, none⟩) r.length (c1 - 1)))) (.cells #[.int .i64 0, .int .u64 0, .int .u64 0] 24)) (.cells #[.int .i64 p.f0, .int .u64 p.f1, .int .u64 p.f2] 24)) hB3))
    have HZ2 := Aside0.mk (show (((w.setCell ⟨k, 0, none⟩ (.slice (some ⟨b1, o1 + 3, none⟩) r.length (c1 - 1))).alloc (.cells #[.int .i64 0, .int .u64 0, .int .u64 0] 24)).alloc (.cells #[.int .i64 p.f0, .int .u64 p.f1, .int .u64 p.f2] 24)).heap[w.heap.size]? = some (.cells #[.int .i64 0, .int .u64 0, .int .u64 0] 24) by have := blk_alloc (blk_new (w.setCell ⟨k, 0, none⟩ (.slice (some ⟨b1, o1 + 3, none⟩) r.length (c1 - 1))) (.cells #[.int .i64 0, .int .u64 0, .int .u64 0] 24)) (.cells #[.int .i64 p.f0, .int .u64 p.f1, .int .u64 p.f2] 24); rwa [hsz3] at this)
    have HP2 := Aside0.mk (show (((w.setCell ⟨k, 0, none⟩ (.slice (some ⟨b1, o1 + 3, none⟩) r.length (c1 - 1))).alloc (.cells #[.int .i64 0, .int .u64 0, .int .u64 0] 24)).alloc (.cells #[.int .i64 p.f0, .int .u64 p.f1, .int .u64 p.f2] 24)).heap[w.heap.size + 1]? = some (.cells #[.int .i64 p.f0, .int .u64 p.f1, .int .u64 p.f2] 24) by have := blk_new ((w.setCell ⟨k, 0, none⟩ (.slice (some ⟨b1, o1 + 3, none⟩) r.length (c1 - 1))).alloc (.cells #[.int .i64 0, .int .u64 0, .int .u64 0] 24)) (.cells #[.int .i64 p.f0, .int .u64 p.f1, .int .u64 p.f2] 24); simpa using this)
    clear hs3 hst3 hsz3 hB3
    go_enter Try.func25, Try.ntmps25
    go_wp2_with fail
    refine (fix32_calls HS3.out (Nat.le_trans hB HST2.out.below.size) (by rw [List.length_set]; exact hl) (by rw [List.length_set]; exact h0)).mono ?_
    rintro e w4 ⟨rfl, ⟨v4, us4, hs4⟩, hst4⟩
    have hz4 := (hst4.pts _ _ _ HZ2.out).trans HZ2.out
    have hp4 := (hst4.pts _ _ _ HP2.out).trans HP2.out
    have z0 := (blk_cell hz4 0).trans rfl
    have z1 := (blk_cell hz4 1).trans rfl
    have z2 := (blk_cell hz4 2).trans rfl
    have f0 := blk_frozen hz4 0
    have f1 := blk_frozen hz4 1
    have f2 := blk_frozen hz4 2
    have q0 := (blk_cell hp4 0).trans rfl
    have q1 := (blk_cell hp4 1).trans rfl
    have q2 := (blk_cell hp4 2).trans rfl
    have het : taken ls r = fixed (ls.set 0 r) := if_neg hr
    rw [← het] at hs4
    go_wp2
    refine bodyPost_ret (v := .agg #[.int .i64 p.f0, .int .u64 p.f1, .int .u64 p.f2]) (by simp [results, Try.results25, go_sem, *]) rfl ?_
    exact ⟨rfl, ⟨_, _, (show Hs _ B M g (taken ls r) _ _ from hs4).far w.heap.size hM hz4 (fun b hb => three_other _ _ _ _ _ b hb)⟩, (HST2.out.trans hst4).put hB _ _ _⟩
end Go.Proofs.Ytfamnbejimbenaa.X
