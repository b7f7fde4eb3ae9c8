/- The heads of an iterator, in memory. -/
import Derived.Test.YtfamnbejimbenaaMeth
import Derived.Test.YtfamnbejimbenaaHeap
set_option linter.unusedVariables false
set_option linter.unusedSimpArgs false
namespace Go.Proofs.Ytfamnbejimbenaa.X
open Go.RowKit Go.Sort Go.Proofs.Ytfamnbejimbenaa.G Go.Proofs.YtfamnbejimbenaaW.PrintWords Go.Proofs.YtfamnbejimbenaaW.PrintLast Go.Proofs.YtfamnbejimbenaaW.PrintMore
/-- One head: a list of points in a block of points that was made since B. -/
def Hv (w : World) (B M : Nat) (u : Value) (x : List S24) : Prop :=
  ∃ b o c, u = .slice (some ⟨b, o, none⟩) x.length c ∧ x.length ≤ c ∧ (B ≤ b ∧ b < M) ∧ (∃ cs fr, w.heap[b]? = some (Obj.cells cs 24 fr)) ∧
    ∀ (i : Nat) (p : S24), x[i]? = some p → w.cell? ⟨b, o + i * 3, none⟩ = some (.int .i64 p.f0) ∧ w.cell? ⟨b, o + i * 3 + 1, none⟩ = some (.int .u64 p.f1) ∧ w.cell? ⟨b, o + i * 3 + 2, none⟩ = some (.int .u64 p.f2)
/-- What goes on between w and w': nothing below B and no block of points is touched. -/
structure Step (B : Nat) (w w' : World) : Prop where
  below : Below B w w'
  pts : ∀ (b : Nat) (cs : Array Value) (fr : Nat × Nat), w.heap[b]? = some (Obj.cells cs 24 fr) → w'.heap[b]? = w.heap[b]?
theorem Step.trans {B : Nat} {a b c : World} (h : Step B a b) (k : Step B b c) : Step B a c :=
  ⟨h.below.trans k.below, fun x cs fr hx => (k.pts x cs fr ((h.pts x cs fr hx).trans hx)).trans (h.pts x cs fr hx)⟩
theorem Step.of_below {B : Nat} {w w' : World} (h : Below w.heap.size w w') (hB : B ≤ w.heap.size) : Step B w w' :=
  ⟨⟨h.os, h.tape, h.output, h.size, fun k hk => h.block k (by omega)⟩, fun b cs fr hb => h.block b (Array.getElem?_eq_some_iff.1 hb).1⟩
theorem Hv.step {w w' : World} {B M B' : Nat} {u : Value} {x : List S24} (h : Hv w B M u x) (hs : Step B' w w') : Hv w' B M u x := by
  obtain ⟨b, o, c, h1, h2, h3, ⟨cs, fr, h4⟩, h5⟩ := h
  have hb := hs.pts b cs fr h4
  refine ⟨b, o, c, h1, h2, h3, ⟨cs, fr, hb.trans h4⟩, fun i p hp => ?_⟩
  obtain ⟨a1, a2, a3⟩ := h5 i p hp
  exact ⟨(World.cell?_of_block hb).trans a1, (World.cell?_of_block hb).trans a2, (World.cell?_of_block hb).trans a3⟩
/-- The heads: a box of the iterator, its row of heads. -/
structure Hs (w : World) (B M g : Nat) (ls : List (List S24)) (v : Value) (us : List Value) : Prop where
  gB : B ≤ g
  box : w.heap[g]? = some (.cells #[v] 47 (0, 0))
  own : w.ownsRow B 29 1 v ls.length us
  hv : ∀ (i : Nat) (x : List S24), ls[i]? = some x → ∃ u, us[i]? = some u ∧ Hv w B M u x
  ne : ∀ x ∈ ls, x ≠ []
theorem Hs.below {w w' : World} {B M g : Nat} {ls : List (List S24)} {v : Value} {us : List Value} (h : Hs w B M g ls v us) (hb : Below w.heap.size w w') (hB : B ≤ w.heap.size) : Hs w' B M g ls v us := by
  have hg := (Array.getElem?_eq_some_iff.1 h.box).1
  refine ⟨h.gB, (hb.block g hg).trans h.box, ?_, fun i x hi => ?_, h.ne⟩
  · obtain ⟨h1, h2⟩ := h.own
    refine ⟨h1, ?_⟩
    rcases h2 with h2 | ⟨k, cap, cur, e1, e2, e3, e4⟩
    · exact .inl h2
    · exact .inr ⟨k, cap, cur, e1, e2, (hb.block k (Array.getElem?_eq_some_iff.1 e3).1).trans e3, e4⟩
  · obtain ⟨u, h1, h2⟩ := h.hv i x hi
    exact ⟨u, h1, h2.step (Step.of_below hb hB)⟩
theorem add0 (k i : Nat) : (⟨k, 0, none⟩ : Addr).add i = ⟨k, i, none⟩ := by unfold Addr.add; split <;> simp_all
/-- The first point of a list. -/
def hd (x : List S24) : S24 := x.headD ⟨0, 0, 0⟩
/-- Which head is ahead. -/
def ltH (x y : List S24) : Bool := decide (aheadI (hd x) (hd y) < 0)
theorem Hs.len {w : World} {B M g : Nat} {ls : List (List S24)} {v : Value} {us : List Value} (h : Hs w B M g ls v us) : us.length = ls.length := by
  have := h.own.1; omega
theorem Hs.at_ {w : World} {B M g : Nat} {ls : List (List S24)} {v : Value} {us : List Value} (h : Hs w B M g ls v us) (i : Nat) (hi : i < ls.length) : ∃ k c b o cu x, v = .slice (some ⟨k, 0, none⟩) ls.length c ∧ ls.getD i [] = x ∧ ls[i]? = some x ∧ 0 < x.length ∧ ls.length ≤ c ∧ w.cell? ⟨k, i, none⟩ = some (.slice (some ⟨b, o, none⟩) x.length cu) ∧ us[i]? = some (.slice (some ⟨b, o, none⟩) x.length cu) ∧
    w.cell? ⟨b, o, none⟩ = some (.int .i64 (hd x).f0) ∧ w.cell? ⟨b, o + 1, none⟩ = some (.int .u64 (hd x).f1) ∧ w.cell? ⟨b, o + 2, none⟩ = some (.int .u64 (hd x).f2) := by
  obtain ⟨u, h1, h2⟩ := h.hv i ls[i] (List.getElem?_eq_getElem hi)
  have hne := h.ne ls[i] (List.getElem_mem hi)
  obtain ⟨k, c, e⟩ : ∃ k c, v = .slice (some ⟨k, 0, none⟩) ls.length c ∧ ls.length ≤ c := by
    rcases h.own.2 with ⟨_, h0⟩ | ⟨k, cap, cur, e1, e2, e3, e4, _⟩
    · omega
    · exact ⟨k, cap, e1, e4⟩
  obtain ⟨b, o, cu, rfl, h4, h5, h6, h7⟩ := h2
  generalize hx : ls[i] = x at *
  have hc := h.own.cells (g := k) (by rw [e.1]; rfl) i _ h1
  rw [add0] at hc
  obtain ⟨p, q, rfl⟩ : ∃ p q, x = p :: q := by cases x with | nil => exact absurd rfl hne | cons p q => exact ⟨p, q, rfl⟩
  obtain ⟨a1, a2, a3⟩ := h7 0 p rfl
  refine ⟨k, c, b, o, cu, p :: q, e.1, by rw [List.getD_eq_getElem?_getD, List.getElem?_eq_getElem hi, hx]; rfl, by rw [List.getElem?_eq_getElem hi, hx], by simp, e.2, hc, h1, by simpa [hd] using a1, by simpa [hd] using a2, by simpa [hd] using a3⟩
theorem Hs.less {w : World} {B M g : Nat} {ls : List (List S24)} {v : Value} {us : List Value} (h : Hs w B M g ls v us) (i j : Nat) (hi : i < ls.length) (hj : j < ls.length) :
    Calls Try.prog 71 #[v, .int .i64 i, .int .i64 j] w fun e w' => e = .returned (.bool (ltH (ls.getD i []) (ls.getD j []))) ∧ Below w.heap.size w w' := by
  obtain ⟨k, c, b1, o1, c1, x, rfl, ex, _, hx, hc, e1, _, p0, p1, p2⟩ := h.at_ i hi
  obtain ⟨k', c', b2, o2, c2, y, e, ey, _, hy, _, e2, _, q0, q1, q2⟩ := h.at_ j hj
  injection e with h1 h2 h3
  injection h1 with h1
  injection h1 with h1
  subst h1
  rw [ex, ey]
  exact less71_calls k _ c i j b1 o1 _ c1 b2 o2 _ c2 (hd x) (hd y) w hi hj hx hy e1 e2 p0 p1 p2 q0 q1 q2
theorem frozen0 {w : World} {k : Nat} {cs : Array Value} {t : TypeId} (h : w.heap[k]? = some (.cells cs t (0, 0))) (j : Nat) : w.frozen? ⟨k, j, none⟩ = false := by
  simp [World.frozen?, h]
theorem pair_sw {w : World} {B M : Nat} {ls : List (List S24)} {us : List Value} {x y : List S24} {p q : Value} (h : ∀ (i : Nat) (x : List S24), ls[i]? = some x → ∃ u, us[i]? = some u ∧ Hv w B M u x) (hl : us.length = ls.length) (i j : Nat) (hp : Hv w B M p x) (hq : Hv w B M q y) :
    ∀ (m : Nat) (z : List S24), ((ls.set i y).set j x)[m]? = some z → ∃ u, ((us.set i q).set j p)[m]? = some u ∧ Hv w B M u z := by
  intro m z hz
  rw [List.getElem?_set] at hz ⊢
  by_cases h1 : j = m
  · subst h1
    simp only [if_true, List.length_set] at hz ⊢
    by_cases h2 : j < ls.length
    · rw [if_pos h2] at hz
      rw [if_pos (by omega)]
      exact ⟨p, rfl, Option.some.inj hz ▸ hp⟩
    · rw [if_neg h2] at hz; cases hz
  · rw [if_neg h1] at hz ⊢
    rw [List.getElem?_set] at hz ⊢
    by_cases h3 : i = m
    · subst h3
      simp only [if_true] at hz ⊢
      by_cases h2 : i < ls.length
      · rw [if_pos h2] at hz
        rw [if_pos (by omega)]
        exact ⟨q, rfl, Option.some.inj hz ▸ hq⟩
      · rw [if_neg h2] at hz; cases hz
    · rw [if_neg h3] at hz ⊢
      exact h m z hz
theorem Hs.swap {w : World} {B M g : Nat} {ls : List (List S24)} {v : Value} {us : List Value} (h : Hs w B M g ls v us) (i j : Nat) (hi : i < ls.length) (hj : j < ls.length) :
    Calls Try.prog 72 #[v, .int .i64 i, .int .i64 j] w fun e w' => e = .returned (.tuple #[]) ∧ (∃ us', Hs w' B M g (Hp.sw [] ls i j) v us') ∧ Step B w w' := by
  obtain ⟨k, c, b1, o1, c1, x, rfl, ex, ix, hx, hc, e1, u1, _⟩ := h.at_ i hi
  obtain ⟨k', c', b2, o2, c2, y, e, ey, iy, hy, _, e2, u2, _⟩ := h.at_ j hj
  injection e with h1 h2 h3
  injection h1 with h1
  injection h1 with h1
  subst h1
  obtain ⟨cur, hk, hBk, hcm, hcs, hct⟩ : ∃ cur, w.heap[k]? = some (Obj.cells cur 29 (0, 0)) ∧ B ≤ k ∧ c ≤ maxLen ∧ cur.size = c * 1 ∧ cur.toList.take (ls.length * 1) = us := by
    rcases h.own.2 with ⟨he, _⟩ | ⟨k1, cap, cur, he, hb, h1, h2, h3, h4, h5⟩
    · injection he with h1; cases h1
    · injection he with g1 g2 g3
      injection g1 with g1
      injection g1 with g1
      subst g1 g3
      exact ⟨cur, h1, hb, h3, h4, h5⟩
  refine (swap72_calls k _ c i j _ _ _ c1 _ c2 w hi hj e1 e2 (frozen0 hk)).mono ?_
  rintro e w' ⟨rfl, rfl⟩
  have hk1 := heap_setCell_same w k i cur 29 (.slice (some ⟨b2, o2, none⟩) y.length c2) hk
  have hk2 := heap_setCell_same _ k j _ 29 (.slice (some ⟨b1, o1, none⟩) x.length c1) hk1
  have hoth : ∀ m, m ≠ k → (((w.setCell ⟨k, i, none⟩ (.slice (some ⟨b2, o2, none⟩) y.length c2)).setCell ⟨k, j, none⟩ (.slice (some ⟨b1, o1, none⟩) x.length c1)).drew).heap[m]? = w.heap[m]? := fun m hm =>
    (heap_setCell_other _ ⟨k, j, none⟩ m _ hm).trans (heap_setCell_other _ ⟨k, i, none⟩ m _ hm)
  have hgk : g ≠ k := fun e => by
    have := h.box
    rw [e, hk] at this
    injection this with this
    injection this with _ h2
    cases h2
  have hst : Step B w (((w.setCell ⟨k, i, none⟩ (.slice (some ⟨b2, o2, none⟩) y.length c2)).setCell ⟨k, j, none⟩ (.slice (some ⟨b1, o1, none⟩) x.length c1)).drew) := by
    refine ⟨⟨rfl, rfl, rfl, ?_, fun m hm => hoth m (by omega)⟩, fun b cs fr hb => hoth b (fun e => ?_)⟩
    · show w.heap.size ≤ ((w.setCell _ _).setCell _ _).heap.size
      simp
    · rw [e, hk] at hb
      injection hb with hb
      injection hb with _ h2
      cases h2
  obtain ⟨p, hp1, hp2⟩ := h.hv i x ix
  obtain ⟨q, hq1, hq2⟩ := h.hv j y iy
  rw [u1] at hp1
  rw [u2] at hq1
  obtain rfl := Option.some.inj hp1
  obtain rfl := Option.some.inj hq1
  have hlen := h.len
  refine ⟨rfl, ⟨(us.set i (.slice (some ⟨b2, o2, none⟩) y.length c2)).set j (.slice (some ⟨b1, o1, none⟩) x.length c1), h.gB, (hoth g hgk).trans h.box, ?_, ?_, ?_⟩, hst⟩
  · rw [Hp.sw_length]
    refine ⟨by simp [hlen], .inr ⟨k, c, _, rfl, hBk, hk2, hc, hcm, by simpa using hcs, ?_⟩⟩
    rw [← hct]
    simp [List.take_set]
  · unfold Hp.sw
    rw [ex, ey]
    exact pair_sw (fun m z hz => by
      obtain ⟨u, a1, a2⟩ := h.hv m z hz
      exact ⟨u, a1, a2.step hst⟩) hlen i j (hp2.step hst) (hq2.step hst)
  · intro z hz
    have := (Hp.sw_perm [] ls i j hi hj).mem_iff.1 hz
    exact h.ne z this
theorem Hs.pop {w : World} {B M g : Nat} {ls : List (List S24)} {x : List S24} {v : Value} {us : List Value} (h : Hs w B M g (ls ++ [x]) v us) (hl : ls.length < 140737488355328) :
    Calls Try.prog 73 #[.pointer (some ⟨g, 0, none⟩)] w fun e w' => (∃ u, e = .returned (.iface 29 u)) ∧ (∃ v' us', Hs w' B M g ls v' us') ∧ Step B w w' := by
  obtain ⟨k, c, b1, o1, c1, x', rfl, ex, ix, hx, hc, e1, u1, _⟩ := h.at_ ls.length (by simp)
  obtain ⟨cur, hk, hBk, hcm, hcs, hct⟩ : ∃ cur, w.heap[k]? = some (Obj.cells cur 29 (0, 0)) ∧ B ≤ k ∧ c ≤ maxLen ∧ cur.size = c * 1 ∧ cur.toList.take ((ls ++ [x]).length * 1) = us := by
    rcases h.own.2 with ⟨he, _⟩ | ⟨k1, cap, cur, he, hb, h1, h2, h3, h4, h5⟩
    · injection he with h1; cases h1
    · injection he with g1 g2 g3
      injection g1 with g1
      injection g1 with g1
      subst g1 g3
      exact ⟨cur, h1, hb, h3, h4, h5⟩
  have hbox := h.box
  have hn : (ls ++ [x]).length = ls.length + 1 := by simp
  rw [hn] at hbox hc
  have hcell : w.cell? ⟨g, 0, none⟩ = some (.slice (some ⟨k, 0, none⟩) (ls.length + 1) c) := by simp [World.cell?, hbox]
  refine (pop73_calls g k ls.length c _ _ c1 w hl hcell hc (frozen0 hbox 0) e1).mono ?_
  rintro e w' ⟨rfl, rfl⟩
  have hg1 := heap_setCell_same w g 0 _ 47 (.slice (some ⟨k, 0, none⟩) ls.length c) hbox
  have hoth : ∀ m, m ≠ g → (w.setCell ⟨g, 0, none⟩ (.slice (some ⟨k, 0, none⟩) ls.length c)).heap[m]? = w.heap[m]? := fun m hm => heap_setCell_other _ ⟨g, 0, none⟩ m _ hm
  have hgB := h.gB
  have hst : Step B w (w.setCell ⟨g, 0, none⟩ (.slice (some ⟨k, 0, none⟩) ls.length c)) := by
    refine ⟨⟨rfl, rfl, rfl, by simp, fun m hm => hoth m (by omega)⟩, fun b cs fr hb => hoth b (fun e => ?_)⟩
    rw [e, hbox] at hb
    injection hb with hb
    injection hb with _ h2
    cases h2
  have hgk : k ≠ g := fun e => by
    rw [e, hbox] at hk
    injection hk with hk
    injection hk with _ h2
    cases h2
  refine ⟨⟨_, rfl⟩, ⟨.slice (some ⟨k, 0, none⟩) ls.length c, us.take ls.length, h.gB, ?_, ?_, ?_, fun z hz => h.ne z (by simp [hz])⟩, hst⟩
  · rw [hg1]; rfl
  · refine ⟨by rw [List.length_take, h.len]; simp, .inr ⟨k, c, cur, rfl, hBk, (hoth k hgk).trans hk, by omega, hcm, hcs, ?_⟩⟩
    rw [← hct, List.take_take]
    simp
  · intro m z hz
    have hm : m < ls.length := (List.getElem?_eq_some_iff.1 hz).1
    obtain ⟨u, a1, a2⟩ := h.hv m z (by rw [List.getElem?_append_left hm]; exact hz)
    exact ⟨u, by rw [List.getElem?_take_of_lt hm]; exact a1, a2.step hst⟩
end Go.Proofs.Ytfamnbejimbenaa.X
